import Derived.Test.YthjcnifdlfjieaaGreatDoorHn
import Derived.Lib.AppendZeros
set_option linter.unusedVariables false
set_option linter.unusedSimpArgs false
namespace Go.Proofs.YthjcnifdlfjieaaGreatDoor.Ho
open Go.RowKit Go.Shelf Go.Proofs.YthjcnifdlfjieaaGreatDoorW.PrintWords Go.Proofs.YthjcnifdlfjieaaGreatDoor.Ha Go.Proofs.YthjcnifdlfjieaaGreatDoor.Hb Go.Proofs.YthjcnifdlfjieaaGreatDoor.Hc Go.Proofs.YthjcnifdlfjieaaGreatDoor.Hp Go.Proofs.YthjcnifdlfjieaaGreatDoor.Hd Go.Proofs.YthjcnifdlfjieaaGreatDoor.He Go.Proofs.YthjcnifdlfjieaaGreatDoor.Hf Go.Proofs.YthjcnifdlfjieaaGreatDoor.Hg Go.Proofs.YthjcnifdlfjieaaGreatDoor.Hh Go.Proofs.YthjcnifdlfjieaaGreatDoor.Hi Go.Proofs.YthjcnifdlfjieaaGreatDoor.Hm Go.Proofs.YthjcnifdlfjieaaGreatDoor.Hj Go.Proofs.YthjcnifdlfjieaaGreatDoor.Hk Go.Proofs.YthjcnifdlfjieaaGreatDoor.Hl Go.Proofs.YthjcnifdlfjieaaGreatDoor.Hn

theorem own_spare (w w1 : World) (base g cap : Nat) (cur : Array Value) (hb : base ≤ g) (hg : w1.heap[g]? = some (.cells cur 3 (0, 0))) (hc : cap ≤ maxLen) (hs : cur.size = cap * 1) :
    Ow (Kd.int .i64) 3 base (.slice (some ⟨g, 0, none⟩) 0 cap) [] w1 :=
  ⟨⟨fun _ _ => trivial, [], ⟨by simp, .inr ⟨g, cap, cur, rfl, hb, hg, Nat.zero_le _, hc, hs, by simp⟩⟩, Reps.none _ _⟩⟩

set_option maxRecDepth 100000 in
set_option maxHeartbeats 2000000 in
theorem Grow_int (n : Nat) (w : World) (hn : n ≤ 4294967296) :
    Calls Tryz.prog 63 #[.slice none 0 0, .int .i64 n] w fun e w' => ∃ v, e = .returned v ∧ Ow (Kd.int .i64) 3 w.heap.size v [] w' ∧ Below w.heap.size w w' := by
  go_enter Tryz.func63, Tryz.ntmps63
  by_cases h0 : n = 0
  · subst h0
    go_wp2
    go_ret
    exact ⟨_, rfl, own_nilI _ _, Below.refl _ _⟩
  · have hp : 0 < n := by omega
    obtain ⟨i0, hi0, hz0, hsz, hby⟩ := int_info
    have hap := Lib.run_append_nil_zeros (P := Tryz.prog) w 22 3 22 3 i0 (.int .i64 0) .i64 .i64 Tryz.underlying22 Tryz.underlying3 hi0 hz0 n hp (by omega) (by omega) (by rw [hby]; omega)
    have hcg := grownCap_le_maxLen w n 0 3 (by unfold maxLen; omega)
    have hge := grownCap_ge w n 0 3
    obtain ⟨gc, hgc⟩ : ∃ gc, grownCap w n 0 3 = gc := ⟨_, rfl⟩
    rw [hgc] at hap hcg hge
    obtain ⟨cs, hcs⟩ : ∃ cs, (Builtin.zeroCells (Value.int .i64 0).cells n ++ Builtin.zeroCells (Value.int .i64 0).cells (gc - n)) = cs := ⟨_, rfl⟩
    have hsz2 : cs.size = gc * 1 := by rw [← hcs]; simp [Builtin.zeroCells, Value.cells]; omega
    rw [hcs] at hap
    have HAP := Lib.hid hap
    have hcut := cut_to (P := Tryz.prog) 22 3 .i64 Tryz.underlying22 hi0 (some ⟨w.heap.size, 0, none⟩) n gc 0 (by omega) (by omega) hge
    have e0 : (0 : Int).toNat = 0 := rfl
    rw [e0] at hcut
    have HS := Lib.hid hsz2
    have HCG := Lib.hid hcg
    clear hap hgc hcs hsz2 hcg e0 hi0 hz0 hsz hby hge
    go_wp2_with (at_builtin; go_must (refine Lib.wpList_append_run w rfl (.tmp 20) (.tmp 21) 22 3 rfl _ _ rfl rfl _ _ HAP.out ?_))
    go_ret
    exact ⟨_, rfl, own_spare w _ _ _ _ cs (Nat.le_refl _) (blk_new w.drew _) HCG.out HS.out, (Below.refl _ w).drew.alloc (Nat.le_refl _) _⟩

/-- A value that reads as rows. -/
def IsRows (w : World) (v : Value) (l : List (List Int)) : Prop := ∃ A c, v = .slice A l.length c ∧ l.length ≤ c ∧ l.length ≤ 9223372036854775807 ∧ (0 < l.length → ∃ ad, A = some ad ∧ ∀ j (hj : j < l.length), ∃ A' c', w.cell? (ad.add j) = some (.slice A' l[j].length c') ∧ l[j].length ≤ c' ∧ Kd.C (Kd.int .i64) w A' l[j].length l[j])
theorem IsRows.below {w w1 : World} {v : Value} {l : List (List Int)} (h : IsRows w v l) (hb : Below w.heap.size w w1) : IsRows w1 v l := by
  obtain ⟨A, c, rfl, h1, h2, h3⟩ := h
  refine ⟨A, c, rfl, h1, h2, fun h => ?_⟩
  obtain ⟨ad, e, h4⟩ := h3 h
  refine ⟨ad, e, fun j hj => ?_⟩
  obtain ⟨A', c', k1, k2, k3⟩ := h4 j hj
  exact ⟨A', c', pw_cell_below hb k1, k2, Kd.C_below k3 hb⟩
theorem flat_take (l : List (List Int)) (k : Nat) (h : k < l.length) : (l.take k).flatten ++ l[k] = (l.take (k + 1)).flatten := by
  rw [List.take_succ_eq_append_getElem h, List.flatten_append]; simp only [List.flatten_cons, List.flatten_nil, List.append_nil]
theorem len_take (l : List (List Int)) (k : Nat) (h : k < l.length) : (l.take k).flatten.length + l[k].length = (l.take (k + 1)).flatten.length := by
  rw [← flat_take l k h, List.length_append]
theorem len_le (l : List (List Int)) (k : Nat) : (l.take k).flatten.length ≤ l.flatten.length := by
  conv => rhs; rw [← List.take_append_drop k l]
  rw [List.flatten_append, List.length_append]; omega
set_option maxHeartbeats 4000000 in
theorem Concat_int (v : Value) (l : List (List Int)) (w : World) (hv : IsRows w v l) (hn : l.flatten.length ≤ 4294967295) :
    Calls Tryz.prog 33 #[v] w fun e w' => ∃ v, e = .returned v ∧ Ow (Kd.int .i64) 3 w.heap.size v l.flatten w' ∧ Below w.heap.size w w' := by
  obtain ⟨A, c, rfl, hc, hL, hr⟩ := hv
  have HR := Lib.hid hr
  clear hr
  go_enter Tryz.func33, Tryz.ntmps33
  go_wp2
  go_loopw [3, 11] (fun s i wr => ∃ (k m : Nat), k ≤ l.length ∧ i = .int .i64 k ∧ s = .int .i64 m ∧ Hid (m = (l.take k).flatten.length) ∧ wr = w) (fun _ i _ => l.length - (intOf i).toNat)
  case atStart => exact ⟨0, 0, Nat.zero_le _, rfl, rfl, rfl, rfl⟩
  case round =>
    obtain ⟨k, m, hk, rfl, rfl, hm, rfl⟩ := hrel
    by_cases hlt : k < l.length
    · obtain ⟨ad, rfl, hcells⟩ := HR.out (by omega)
      obtain ⟨A', c', hcell, hc', -⟩ := hcells k hlt
      have hd : decide (k < l.length) = true := by simpa using hlt
      have hml := hm.out ▸ len_take l k hlt
      have hle := len_le l (k + 1)
      obtain ⟨p, hp⟩ : ∃ p, l[k].length = p := ⟨_, rfl⟩
      rw [hp] at hcell hml hc'
      have hsum : IntKind.i64.wrap ((m : Int) + (p : Int)) = ((m + p : Nat) : Int) := by rw [IntKind.wrap_i64]; omega
      have HML := Lib.hid hml
      have hneg : decide (((m + p : Nat) : Int) < 0) = false := by simp; omega
      clear hml hcells hp
      go_wp2
      go_roundw
      case rel => exact ⟨k + 1, m + p, by omega, by go_num, by go_num, HML.out, trivial⟩
      case measure => simp [intOf]; omega
    · obtain ⟨w0, hw0⟩ : ∃ w0, w0 = wr := ⟨_, rfl⟩
      subst hw0
      have hmm : m = l.flatten.length := by have := hm.out; rw [List.take_of_length_le (by omega)] at this; exact this
      have hd : decide (k < l.length) = false := by simpa using hlt
      have hm4 : m ≤ 4294967295 := by omega
      have HM := Lib.hid hmm
      have c1 := Lib.hid (Grow_int m w0 (by omega))
      clear hmm hm
      go_wp2_with fail
      refine c1.out.mono ?_
      rintro e w1 ⟨v, rfl, ho, hb⟩
      have HO := Lib.hid ho
      have HB := Lib.hid hb
      clear ho hb
      go_wp2
      go_loopw [6, 27] (fun s i w2 => ∃ (k : Nat) (r : List Int), k ≤ l.length ∧ i = .int .i64 k ∧ Hid (r = (l.take k).flatten) ∧ Ow (Kd.int .i64) 3 w0.heap.size s r w2 ∧ Hid (Below w0.heap.size w0 w2)) (fun _ i _ => l.length - (intOf i).toNat)
      case atStart => exact ⟨0, [], Nat.zero_le _, rfl, rfl, HO.out, HB.out⟩
      case round =>
        obtain ⟨k, r, hk, rfl, hr, ho, hb⟩ := hrel
        by_cases hlt : k < l.length
        · obtain ⟨ad, rfl, hcells⟩ := HR.out (by omega)
          obtain ⟨A', c', hcell, hc', hC⟩ := hcells k hlt
          have hd : decide (k < l.length) = true := by simpa using hlt
          have hml := len_take l k hlt
          have hle := len_le l (k + 1)
          have hfl := Lib.hid (flat_take l k hlt)
          have hcell2 := pw_cell_below hb.out hcell
          have hC2 := Lib.hid (Kd.C_below hC hb.out)
          have hrl : r.length + l[k].length ≤ 4294967295 := by rw [hr.out]; omega
          obtain ⟨q, hq⟩ : ∃ q, l[k] = q := ⟨_, rfl⟩
          rw [hq] at hcell2 hC2 hfl hrl
          have HO2 := Lib.hid ho
          clear hcell hC hcells hq hml hc' ho
          go_wp2_with (at_builtin; go_must (refine Kd.R_append_row (Value.int .i64) 0 (w0 := w0) w0.heap.size rfl (.tmp 31) (.tmp 32) 22 3 (.int .i64 0) 8 rfl Tryz.underlying22 info_int rfl (by omega) _ r q A' q.length c' (fun _ => True) rfl rfl (fun _ _ => trivial) HO2.out.out hC2.out hb.out hb.out.size (by omega) ?_); intro v1 w3 hR hb3 _ _; have HO3 := Ow.mk hR; have HB3 := Lib.hid hb3; clear hR hb3)
          go_roundw
          case rel => exact ⟨k + 1, r ++ q, by omega, by go_num, (show r ++ q = _ from by rw [hr.out]; exact hfl.out), HO3, HB3.out⟩
          case measure => simp [intOf]; omega
        · have hd : decide (k < l.length) = false := by simpa using hlt
          have hrr : r = l.flatten := by have := hr.out; rw [List.take_of_length_le (by omega)] at this; exact this
          subst hrr
          have HO2 := Lib.hid ho
          clear ho hr
          go_wp2
          go_ret
          exact ⟨_, rfl, HO2.out, hb.out⟩
end Go.Proofs.YthjcnifdlfjieaaGreatDoor.Ho
