import Derived.Test.YthjcnifdlfjieaaGreatDoorHe
import Derived.WalkSmall
set_option linter.unusedVariables false
set_option linter.unusedSimpArgs false
namespace Go.Proofs.YthjcnifdlfjieaaGreatDoor.Hf
open Go.RowKit Go.Shelf Go.Proofs.YthjcnifdlfjieaaGreatDoorW.PrintWords Go.Proofs.YthjcnifdlfjieaaGreatDoor.Ha Go.Proofs.YthjcnifdlfjieaaGreatDoor.Hb Go.Proofs.YthjcnifdlfjieaaGreatDoor.Hc Go.Proofs.YthjcnifdlfjieaaGreatDoor.Hp Go.Proofs.YthjcnifdlfjieaaGreatDoor.Hd Go.Proofs.YthjcnifdlfjieaaGreatDoor.He

/-- The package-level variables as the row lays them. -/
structure G (w : World) : Prop where
  tab : Lib.TabIs Tryz.prog w "internal/strconv.uint64pow10" .u64 Lib.pow10Tab
  rng : ∃ ev, w.cell? ⟨2, 0, none⟩ = some ev ∧ (ev = .nilIface ∨ ∃ te pe, ev = .iface te pe)
theorem G.below {w w1 : World} (h : G w) (hb : Below w.heap.size w w1) : G w1 := by
  obtain ⟨ev, hc, he⟩ := h.rng
  refine ⟨?_, ev, pw_cell_below hb hc, he⟩
  have ht := h.tab
  unfold Lib.TabIs at ht ⊢
  have hg : Tryz.prog.globalNamed "internal/strconv.uint64pow10" = some 0 := by kernel_rfl
  have hlt : 0 < w.heap.size := by
    unfold World.var? at ht
    simp only [hg, Option.bind_some] at ht
    rcases Nat.lt_or_ge 0 w.heap.size with h1 | h1
    · exact h1
    · rw [Array.getElem?_eq_none h1] at ht; simp at ht
  exact var?_below hb hg hlt ht

def intF (s : ByteArray) : Option Int := if mayB s = true then (match Lib.parseIntB 64 s.data.toList with | .ok v => some v | _ => none) else none

theorem parseUintM_digits (M : Nat) : ∀ (l : List UInt8) (acc : Nat), l.all dg = true → (∃ v, Lib.parseUintM M acc l = .ok v) ∨ Lib.parseUintM M acc l = .range
  | [], acc, _ => by simp [Lib.parseUintM]
  | c :: r, acc, h => by
    rw [List.all_cons, Bool.and_eq_true] at h
    have hc : 48 ≤ c.toNat ∧ c.toNat ≤ 57 := by simpa [dg] using h.1
    unfold Lib.parseUintM
    rw [if_pos hc]
    split
    · simp
    · split
      · simp
      · exact parseUintM_digits M r _ h.2
theorem may_parts {s : ByteArray} (h : mayB s = true) : 1 ≤ (bare s).size ∧ (bare s).size ≤ 100 ∧ digits (bare s) = true := by
  unfold mayB at h
  split at h
  · cases h
  · split at h
    · cases h
    · split at h
      · cases h
      · exact ⟨by omega, by omega, h⟩
theorem bare_list (s : ByteArray) : (bare s).data.toList = Lib.trimPrefix s.data.toList [45] := by simp [bare]
theorem trim_cons (c : UInt8) (r : List UInt8) : Lib.trimPrefix (c :: r) [45] = if c = 45 then r else c :: r := by
  by_cases h : c = 45
  · subst h; simp [Lib.trimPrefix, Lib.hasPrefix]
  · simp [Lib.trimPrefix, Lib.hasPrefix, h]
    exact fun h2 => h h2.symm
theorem may_size {s : ByteArray} (h : mayB s = true) : s.size ≤ 101 := by
  obtain ⟨h1, h2, _⟩ := may_parts h
  have hl := bare_list s
  have hs : s.size = s.data.toList.length := by simp
  have hb : (bare s).size = (bare s).data.toList.length := by simp
  rw [hb, hl] at h2
  rw [hs]
  cases hq : s.data.toList with
  | nil => simp
  | cons c r =>
    rw [hq, trim_cons] at h2
    split at h2 <;> simp at h2 ⊢ <;> omega
theorem may_told {s : ByteArray} (h : mayB s = true) : (∃ v, Lib.parseIntB 64 s.data.toList = .ok v) ∨ Lib.parseIntB 64 s.data.toList = .range := by
  obtain ⟨h1, h2, hd⟩ := may_parts h
  have hl := bare_list s
  have hb : (bare s).size = (bare s).data.toList.length := by simp
  unfold digits at hd
  rw [hb] at h1
  rw [hl] at hd h1
  cases hq : s.data.toList with
  | nil => rw [hq] at h1; simp [Lib.trimPrefix, Lib.hasPrefix] at h1
  | cons c r =>
    rw [hq, trim_cons] at hd h1
    have hne : ∀ l : List UInt8, l.all dg = true → 1 ≤ l.length → (∃ v, Lib.parseUintB 64 l = .ok v) ∨ Lib.parseUintB 64 l = .range := by
      intro l ha hn
      unfold Lib.parseUintB
      rw [if_neg (by rintro rfl; simp at hn)]
      exact parseUintM_digits _ _ _ ha
    by_cases hc : c = 45
    · subst hc
      rw [if_pos rfl] at hd h1
      have hu := hne r hd h1
      simp only [Lib.parseIntB]
      rw [if_pos (by decide)]
      rcases hu with ⟨v, hv⟩ | hv <;> simp only [hv] <;> first | (simp; done) | (split <;> first | (simp; done) | (split <;> simp))
    · rw [if_neg hc] at hd h1
      have hu := hne (c :: r) hd h1
      have hcd : 48 ≤ c.toNat := by
        rw [List.all_cons, Bool.and_eq_true] at hd
        have := hd.1; simp [dg] at this; omega
      simp only [Lib.parseIntB]
      rw [if_neg (by omega)]
      rcases hu with ⟨v, hv⟩ | hv <;> simp only [hv] <;> first | (simp; done) | (split <;> first | (simp; done) | (split <;> simp))

theorem parse_range (s : ByteArray) (hs : s.size ≤ 281474976710656) (hp : Lib.parseIntB 64 s.data.toList = .range) (w : World) (h : G w) :
    Calls Tryz.prog 83 #[.string s, .int .i64 10, .int .i64 64] w fun e w' => ∃ (n : Int) (N : Nat), e = .returned (.tuple #[.int .i64 n, .iface 155 (.pointer (some ⟨N, 0, none⟩))]) ∧ Below w.heap.size w w' := by
  obtain ⟨ev, hv, hev⟩ := h.rng
  exact (Tryz.strconv_ParseInt_10_at64_range s hs hp ev w hv hev).mono fun e w' ⟨N, he, _, _, hb⟩ => ⟨_, N, he, hb⟩

set_option maxHeartbeats 1000000 in
theorem IntS (s : ByteArray) (w : World) (hG : G w) : Calls Tryz.prog 60 #[.string s] w fun e w' => e = .returned (.tuple #[.int .i64 ((intF s).getD 0), .bool (intF s).isSome]) ∧ Below w.heap.size w w' := by
  have HG := Lib.hid hG
  clear hG
  have c1 := Lib.hid (May s w)
  cases hm : mayB s with
  | false =>
    have hf : Hid (intF s = none) := by show _ = _; simp [intF, hm]
    rw [hm] at c1; clear hm
    go_enter Tryz.func60, Tryz.ntmps60
    go_wp2_with fail
    refine c1.out.mono ?_
    rintro e w1 ⟨rfl, hb⟩
    have HB := Lib.hid hb; clear hb
    go_wp2
    go_ret2
    exact ⟨by rw [hf.out]; rfl, HB.out⟩
  | true =>
    have hsz := may_size hm
    rcases may_told hm with ⟨v, hp⟩ | hp
    · skip
      have hf : Hid (intF s = some v) := by show _ = _; simp [intF, hm, hp]
      have c2 := Lib.hid (fun w => Tryz.strconv_ParseInt_10_at64_ok s (by omega) v hp w)
      rw [hm] at c1; clear hm hp
      go_enter Tryz.func60, Tryz.ntmps60
      go_wp2_with fail
      refine c1.out.mono ?_
      rintro e w1 ⟨rfl, hb⟩
      have HB := Lib.hid hb; clear hb
      go_wp2_with fail
      refine (c2.out _).mono ?_
      rintro e w2 ⟨rfl, hw⟩
      have HB2 : Hid (Below w.heap.size w w2) := by
        rcases hw with rfl | ⟨t, rfl⟩
        · exact HB.out
        · exact HB.out.trans ((Lib.bytesWorld_below _ _ _).mono HB.out.size)
      clear hw
      go_wp2
      go_ret2
      exact ⟨by rw [hf.out]; rfl, HB2.out⟩
    · skip
      have hf : Hid (intF s = none) := by show _ = _; simp [intF, hm, hp]
      have c2 := Lib.hid (fun w (h : G w) => parse_range s (by omega) hp w h)
      rw [hm] at c1; clear hm hp
      go_enter Tryz.func60, Tryz.ntmps60
      go_wp2_with fail
      refine c1.out.mono ?_
      rintro e w1 ⟨rfl, hb⟩
      have HB := Lib.hid hb; clear hb
      go_wp2_with fail
      refine (c2.out _ (HG.out.below HB.out)).mono ?_
      rintro e w2 ⟨n, N, rfl, hb⟩
      have HB2 := Lib.hid (HB.out.trans (hb.mono HB.out.size)); clear hb
      go_wp2
      go_ret2
      exact ⟨by rw [hf.out]; rfl, HB2.out⟩
end Go.Proofs.YthjcnifdlfjieaaGreatDoor.Hf
