import Derived.Test.YthjcnifdlfjieaaGreatDoorHg
set_option linter.unusedVariables false
set_option linter.unusedSimpArgs false
namespace Go.Proofs.YthjcnifdlfjieaaGreatDoor.Hh
open Go.RowKit Go.Shelf Go.Proofs.YthjcnifdlfjieaaGreatDoorW.PrintWords Go.Proofs.YthjcnifdlfjieaaGreatDoor.Ha Go.Proofs.YthjcnifdlfjieaaGreatDoor.Hb Go.Proofs.YthjcnifdlfjieaaGreatDoor.Hc Go.Proofs.YthjcnifdlfjieaaGreatDoor.Hp Go.Proofs.YthjcnifdlfjieaaGreatDoor.Hd Go.Proofs.YthjcnifdlfjieaaGreatDoor.He Go.Proofs.YthjcnifdlfjieaaGreatDoor.Hf Go.Proofs.YthjcnifdlfjieaaGreatDoor.Hg

/-- A proposition's truth. -/
noncomputable def tt (p : Prop) : Bool := @decide p (Classical.propDecidable p)
theorem tt_yes {p : Prop} (h : p) : tt p = true := by unfold tt; exact @decide_eq_true p (Classical.propDecidable p) h
theorem tt_no {p : Prop} (h : ¬ p) : tt p = false := by unfold tt; exact @decide_eq_false p (Classical.propDecidable p) h
theorem tt_iff {p : Prop} : tt p = true ↔ p := ⟨fun h => Classical.byContradiction fun hp => (by rw [tt_no hp] at h; cases h), tt_yes⟩
theorem bl_inj {a b : ByteArray} (h : a.toList = b.toList) : a = b := by
  rw [ByteArray.toList_eq, ByteArray.toList_eq] at h
  exact ByteArray.ext (Array.toList_inj.1 h)
theorem eq_of_drops {α : Type} {l m : List α} (k : Nat) (h : l.length = m.length) (h2 : l.take k = m.take k) (h3 : ¬ k < l.length) : l = m := by
  rw [← List.take_of_length_le (l := l) (i := k) (by omega), ← List.take_of_length_le (l := m) (i := k) (by omega), h2]
theorem take_next {α : Type} {l m : List α} (k : Nat) (h1 : k < l.length) (h2 : k < m.length) (h : l.take k = m.take k) (he : l[k] = m[k]) : l.take (k + 1) = m.take (k + 1) := by
  rw [List.take_succ_eq_append_getElem h1, List.take_succ_eq_append_getElem h2, h, he]
theorem ne_at {α : Type} {l m : List α} (k : Nat) (h1 : k < l.length) (h2 : k < m.length) (he : ¬ l[k] = m[k]) : ¬ l = m := by rintro rfl; exact he rfl

set_option maxHeartbeats 2000000 in
theorem Equal_int (A : Option Addr) (c : Nat) (l : List Int) (B : Option Addr) (d : Nat) (m : List Int) (w : World) (hr : Kd.C (Kd.int .i64) w A l.length l) (hc : l.length ≤ c) (hs : Kd.C (Kd.int .i64) w B m.length m) (hd : m.length ≤ d) :
    Calls Tryz.prog 64 #[.slice A l.length c, .slice B m.length d] w fun e w' => e = .returned (.bool (tt (l = m))) ∧ Below w.heap.size w w' := by
  have HR := Lib.hid hr
  have HS := Lib.hid hs
  have HL : l.length ≤ 9223372036854775807 := hr.2.1
  have HM : m.length ≤ 9223372036854775807 := hs.2.1
  clear hr hs
  by_cases hlen : l.length = m.length
  · have HLM := Lib.hid hlen
    have h1 : (l.length == m.length) = true := by simpa using hlen
    have h2 : ((l.length : Int) == (m.length : Int)) = true := by simp; omega
    have h3 : ((l.length : Int) != (m.length : Int)) = false := by simp; omega
    have hlm1 : l.length ≤ m.length := by omega
    clear hlen
    go_enter Tryz.func64, Tryz.ntmps64
    go_wp2
    clear h1 h2 h3
    go_loopw [5, 13] (fun _ i wr => ∃ k : Nat, k ≤ l.length ∧ i = .int .i64 k ∧ Hid (l.take k = m.take k) ∧ Drawn0 w wr) (fun _ i _ => l.length - (intOf i).toNat)
    case atStart => exact ⟨0, Nat.zero_le _, rfl, rfl, Drawn0.refl _⟩
    case round =>
      obtain ⟨k, hk, rfl, hi, hw⟩ := hrel
      have hkm : k ≤ 9223372036854775807 := Nat.le_trans hk HL
      by_cases hlt : k < l.length
      · have hltm : k < m.length := by omega
        obtain ⟨ad, hA, hcell⟩ := C_cell (Kd.C_below HR.out hw.below) k hlt
        obtain ⟨bd, hB, hcell2⟩ := C_cell (Kd.C_below HS.out hw.below) k hltm
        subst hA; subst hB
        have hd1 : decide (k < l.length) = true := by simpa using hlt
        have HW := Lib.hid hw; clear hw
        have ki1 : (k : Int) < l.length := by omega
        have ki2 : (k : Int) < m.length := by omega
        have ki3 : (0 : Int) ≤ k := by omega
        by_cases hpk : l[k] = m[k]
        · have hq := Lib.hid (take_next k hlt hltm hi.out hpk)
          go_wp2
          go_quiet (fail)
          go_wp2
          exact ⟨⟨k + 1, by omega, by go_num, hq.out, HW.out.step _⟩, by simp [intOf]; omega⟩
        · have hq := Lib.hid (tt_no (ne_at k hlt hltm hpk))
          have hq1 : (l[k] == m[k]) = false := by simpa using hpk
          have hq2 : (l[k] != m[k]) = true := by simpa using hpk
          go_wp2
          go_quiet (fail)
          go_wp2
          go_ret
          exact ⟨ret_bool hq.out.symm, (HW.out.step _).below⟩
      · have hd1 : decide (k < l.length) = false := by simpa using hlt
        have hq := Lib.hid (tt_yes (eq_of_drops k HLM.out hi.out hlt))
        go_wp2
        go_ret
        exact ⟨ret_bool hq.out.symm, hw.below⟩
  · have hq := Lib.hid (tt_no (fun h : l = m => hlen (by rw [h])))
    have h1 : (l.length == m.length) = false := by simpa using hlen
    have h2 : ((l.length : Int) == (m.length : Int)) = false := by simp; omega
    have h3 : ((l.length : Int) != (m.length : Int)) = true := by simp; omega
    clear hlen
    go_enter Tryz.func64, Tryz.ntmps64
    go_wp2
    go_ret
    exact ⟨ret_bool hq.out.symm, Below.refl _ _⟩

set_option maxHeartbeats 2000000 in
theorem Equal_str (A : Option Addr) (c : Nat) (l : List ByteArray) (B : Option Addr) (d : Nat) (m : List ByteArray) (w : World) (hr : Kd.C Kd.string w A l.length l) (hc : l.length ≤ c) (hs : Kd.C Kd.string w B m.length m) (hd : m.length ≤ d) :
    Calls Tryz.prog 36 #[.slice A l.length c, .slice B m.length d] w fun e w' => e = .returned (.bool (tt (l = m))) ∧ Below w.heap.size w w' := by
  have HR := Lib.hid hr
  have HS := Lib.hid hs
  have HL : l.length ≤ 9223372036854775807 := hr.2.1
  have HM : m.length ≤ 9223372036854775807 := hs.2.1
  clear hr hs
  by_cases hlen : l.length = m.length
  · have HLM := Lib.hid hlen
    have h1 : (l.length == m.length) = true := by simpa using hlen
    have h2 : ((l.length : Int) == (m.length : Int)) = true := by simp; omega
    have h3 : ((l.length : Int) != (m.length : Int)) = false := by simp; omega
    have hlm1 : l.length ≤ m.length := by omega
    clear hlen
    go_enter Tryz.func36, Tryz.ntmps36
    go_wp2
    clear h1 h2 h3
    go_loopw [5, 13] (fun _ i wr => ∃ k : Nat, k ≤ l.length ∧ i = .int .i64 k ∧ Hid (l.take k = m.take k) ∧ Drawn0 w wr) (fun _ i _ => l.length - (intOf i).toNat)
    case atStart => exact ⟨0, Nat.zero_le _, rfl, rfl, Drawn0.refl _⟩
    case round =>
      obtain ⟨k, hk, rfl, hi, hw⟩ := hrel
      have hkm : k ≤ 9223372036854775807 := Nat.le_trans hk HL
      by_cases hlt : k < l.length
      · have hltm : k < m.length := by omega
        obtain ⟨ad, hA, hcell⟩ := C_cell (Kd.C_below HR.out hw.below) k hlt
        obtain ⟨bd, hB, hcell2⟩ := C_cell (Kd.C_below HS.out hw.below) k hltm
        subst hA; subst hB
        have hd1 : decide (k < l.length) = true := by simpa using hlt
        have HW := Lib.hid hw; clear hw
        have ki1 : (k : Int) < l.length := by omega
        have ki2 : (k : Int) < m.length := by omega
        have ki3 : (0 : Int) ≤ k := by omega
        by_cases hpk : l[k] = m[k]
        · have hq := Lib.hid (take_next k hlt hltm hi.out hpk)
          go_wp2
          go_quiet (fail)
          go_wp2
          exact ⟨⟨k + 1, by omega, by go_num, hq.out, HW.out.step _⟩, by simp [intOf]; omega⟩
        · have hq := Lib.hid (tt_no (ne_at k hlt hltm hpk))
          have hq1 : (l[k].toList == m[k].toList) = false := by simpa using fun h => hpk (bl_inj h)
          have hq2 : (l[k].toList != m[k].toList) = true := by simpa using fun h => hpk (bl_inj h)
          go_wp2
          go_quiet (fail)
          go_wp2
          go_ret
          exact ⟨ret_bool hq.out.symm, (HW.out.step _).below⟩
      · have hd1 : decide (k < l.length) = false := by simpa using hlt
        have hq := Lib.hid (tt_yes (eq_of_drops k HLM.out hi.out hlt))
        go_wp2
        go_ret
        exact ⟨ret_bool hq.out.symm, hw.below⟩
  · have hq := Lib.hid (tt_no (fun h : l = m => hlen (by rw [h])))
    have h1 : (l.length == m.length) = false := by simpa using hlen
    have h2 : ((l.length : Int) == (m.length : Int)) = false := by simp; omega
    have h3 : ((l.length : Int) != (m.length : Int)) = true := by simp; omega
    clear hlen
    go_enter Tryz.func36, Tryz.ntmps36
    go_wp2
    go_ret
    exact ⟨ret_bool hq.out.symm, Below.refl _ _⟩

end Go.Proofs.YthjcnifdlfjieaaGreatDoor.Hh
