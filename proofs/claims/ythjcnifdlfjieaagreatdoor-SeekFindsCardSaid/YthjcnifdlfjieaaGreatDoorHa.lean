import Derived.Test.YthjcnifdlfjieaaGreatDoorProg
import Derived.Test.YthjcnifdlfjieaaGreatDoorWMore
import Derived.Lib.Hide
import Derived.Shelf.Abstract
set_option linter.unusedVariables false
set_option linter.unusedSimpArgs false
namespace Go.Proofs.YthjcnifdlfjieaaGreatDoor.Ha
open Go.RowKit Go.Proofs.YthjcnifdlfjieaaGreatDoorW.PrintWords

/-- A cell of a row of scalars. -/
theorem C_cell {α : Type} {enc : α → Value} {h1 : ∀ x, (enc x).oneCell' = true} {w : World} {A : Option Addr} {n : Nat} {l : List α} (h : Kd.C (Kd.scalar enc h1) w A n l) (i : Nat) (hi : i < l.length) : ∃ ad, A = some ad ∧ w.cell? (ad.add i) = some (enc l[i]) := by
  have hn := h.1
  obtain ⟨ad, e, hc⟩ := h.2.2 (by omega)
  obtain ⟨c, hl, hk, hcell⟩ := hc i l[i] (List.getElem?_eq_getElem hi)
  refine ⟨ad, e, ?_⟩
  have hk' : c = [enc l[i]] := hk
  have := hcell 0 (enc l[i]) (by rw [hk']; rfl)
  simpa [Kd.scalar] using this

theorem ret_int {k : IntKind} {a b : Int} (h : a = b) : Ending.returned (.int k a) = .returned (.int k b) := by rw [h]
theorem ret_bool {a b : Bool} (h : a = b) : Ending.returned (.bool a) = .returned (.bool b) := by rw [h]

def idxOf {α : Type} (p : α → Bool) : List α → Nat → Int
  | [], _ => -1
  | x :: l, k => if p x then (k : Int) else idxOf p l (k + 1)
theorem idxOf_nil {α : Type} (p : α → Bool) (l : List α) (k : Nat) (h : ¬ k < l.length) : idxOf p (l.drop k) k = -1 := by
  rw [List.drop_eq_nil_of_le (by omega)]; rfl
theorem idxOf_yes {α : Type} (p : α → Bool) (l : List α) (k : Nat) (h : k < l.length) (hp : p l[k] = true) : idxOf p (l.drop k) k = k := by
  rw [List.drop_eq_getElem_cons h]; simp [idxOf, hp]
theorem idxOf_no {α : Type} (p : α → Bool) (l : List α) (k : Nat) (h : k < l.length) (hp : p l[k] = false) : idxOf p (l.drop k) k = idxOf p (l.drop (k + 1)) (k + 1) := by
  rw [List.drop_eq_getElem_cons h]; simp [idxOf, hp]
theorem idxOf_nonneg {α : Type} (p : α → Bool) (l : List α) : ∀ k : Nat, (0 ≤ idxOf p l k ↔ l.any p = true) := by
  induction l with
  | nil => intro k; simp [idxOf]
  | cons x l ih =>
    intro k
    have e : idxOf p (x :: l) k = if p x then (k : Int) else idxOf p l (k + 1) := rfl
    rw [e, List.any_cons]
    by_cases hx : p x = true
    · simp [hx]
    · simp [hx, ih (k + 1)]
theorem idxOf_geq {α : Type} (p : α → Bool) (l : List α) (k : Nat) : decide (0 ≤ idxOf p l k) = l.any p := by
  rw [Bool.eq_iff_iff, decide_eq_true_iff]; exact idxOf_nonneg p l k

set_option maxHeartbeats 1000000 in
theorem IndexFunc_int (g : FuncId) (lb : Array Value) (eg : ∀ args w, (callFunc g args).run Tryz.prog w = .ok (.enter g args) w) (p : Int → Bool) (A : Option Addr) (c : Nat) (l : List Int) (w : World)
    (hp : ∀ (x : Int) (W : World), Below w.heap.size w W → Calls Tryz.prog g (#[.int .i64 x] ++ lb) W fun e w' => e = .returned (.bool (p x)) ∧ Below W.heap.size W w')
    (hr : Kd.C (Kd.int .i64) w A l.length l) (hc : l.length ≤ c) :
    Calls Tryz.prog 77 #[.slice A l.length c, .func (.func g) #[] lb] w fun e w' => e = .returned (.int .i64 (idxOf p l 0)) ∧ Below w.heap.size w w' := by
  go_enter Tryz.func77, Tryz.ntmps77
  have HR := Lib.hid hr
  have HP := Lib.hid hp
  have HL : l.length ≤ 9223372036854775807 := hr.2.1
  clear hr hp
  go_wp2
  go_loopw [5, 8] (fun _ i wr => ∃ k : Nat, k ≤ l.length ∧ i = .int .i64 k ∧ Hid (idxOf p l 0 = idxOf p (l.drop k) k) ∧ Below w.heap.size w wr) (fun _ i _ => l.length - (intOf i).toNat)
  case atStart => exact ⟨0, Nat.zero_le _, rfl, rfl, Below.refl _ _⟩
  case round =>
    obtain ⟨k, hk, rfl, hi, hb⟩ := hrel
    have hkm : k ≤ 9223372036854775807 := Nat.le_trans hk HL
    by_cases hlt : k < l.length
    · obtain ⟨ad, hA, hcell⟩ := C_cell (Kd.C_below HR.out hb) k hlt
      subst hA
      have HB := Lib.hid hb
      have HPx := Lib.hid (HP.out l[k] _ hb)
      clear hb
      have hd : decide (k < l.length) = true := by simpa using hlt
      go_wp2_with fail
      refine HPx.out.mono ?_
      rintro e w1 ⟨rfl, hb2⟩
      have hb3 := Lib.hid (HB.out.trans (hb2.mono HB.out.size))
      clear hb2 HPx HB
      by_cases hpk : p l[k] = true
      · have hq := Lib.hid hpk
        rw [hpk]; clear hpk
        go_wp2
        go_ret
        exact ⟨ret_int (hi.out.trans (idxOf_yes p l k hlt hq.out)).symm, hb3.out⟩
      · have hpk : p l[k] = false := by simpa using hpk
        have hq := Lib.hid hpk
        rw [hpk]; clear hpk
        go_wp2
        go_roundw
        case rel => exact ⟨k + 1, by omega, by go_num, (by have := hi.out; rw [idxOf_no p l k hlt hq.out] at this; exact this), hb3.out⟩
        case measure => simp [intOf]; omega
    · have hd : decide (k < l.length) = false := by simpa using hlt
      go_wp2
      go_ret
      exact ⟨ret_int (hi.out.trans (idxOf_nil p l k hlt)).symm, hb⟩

set_option maxHeartbeats 1000000 in
theorem ContainsFunc_int (g : FuncId) (lb : Array Value) (eg : ∀ args w, (callFunc g args).run Tryz.prog w = .ok (.enter g args) w) (p : Int → Bool) (A : Option Addr) (c : Nat) (l : List Int) (w : World)
    (hp : ∀ (x : Int) (W : World), Below w.heap.size w W → Calls Tryz.prog g (#[.int .i64 x] ++ lb) W fun e w' => e = .returned (.bool (p x)) ∧ Below W.heap.size W w')
    (hr : Kd.C (Kd.int .i64) w A l.length l) (hc : l.length ≤ c) :
    Calls Tryz.prog 48 #[.slice A l.length c, .func (.func g) #[] lb] w fun e w' => e = .returned (.bool (l.any p)) ∧ Below w.heap.size w w' := by
  have cI := Lib.hid (IndexFunc_int g lb eg p A c l w hp hr hc)
  have hq := Lib.hid (idxOf_geq p l 0)
  clear hp hr
  go_enter Tryz.func48, Tryz.ntmps48
  go_wp2_with fail
  refine cI.out.mono ?_
  rintro e w1 ⟨rfl, hb⟩
  go_wp2
  go_ret
  exact ⟨ret_bool hq.out, hb⟩
set_option maxHeartbeats 1000000 in
theorem IndexFunc_str (g : FuncId) (lb : Array Value) (eg : ∀ args w, (callFunc g args).run Tryz.prog w = .ok (.enter g args) w) (p : ByteArray → Bool) (A : Option Addr) (c : Nat) (l : List ByteArray) (w : World)
    (hp : ∀ (x : ByteArray) (W : World), Below w.heap.size w W → Calls Tryz.prog g (#[.string x] ++ lb) W fun e w' => e = .returned (.bool (p x)) ∧ Below W.heap.size W w')
    (hr : Kd.C Kd.string w A l.length l) (hc : l.length ≤ c) :
    Calls Tryz.prog 52 #[.slice A l.length c, .func (.func g) #[] lb] w fun e w' => e = .returned (.int .i64 (idxOf p l 0)) ∧ Below w.heap.size w w' := by
  go_enter Tryz.func52, Tryz.ntmps52
  have HR := Lib.hid hr
  have HP := Lib.hid hp
  have HL : l.length ≤ 9223372036854775807 := hr.2.1
  clear hr hp
  go_wp2
  go_loopw [5, 8] (fun _ i wr => ∃ k : Nat, k ≤ l.length ∧ i = .int .i64 k ∧ Hid (idxOf p l 0 = idxOf p (l.drop k) k) ∧ Below w.heap.size w wr) (fun _ i _ => l.length - (intOf i).toNat)
  case atStart => exact ⟨0, Nat.zero_le _, rfl, rfl, Below.refl _ _⟩
  case round =>
    obtain ⟨k, hk, rfl, hi, hb⟩ := hrel
    have hkm : k ≤ 9223372036854775807 := Nat.le_trans hk HL
    by_cases hlt : k < l.length
    · obtain ⟨ad, hA, hcell⟩ := C_cell (Kd.C_below HR.out hb) k hlt
      subst hA
      have HB := Lib.hid hb
      have HPx := Lib.hid (HP.out l[k] _ hb)
      clear hb
      have hd : decide (k < l.length) = true := by simpa using hlt
      go_wp2_with fail
      refine HPx.out.mono ?_
      rintro e w1 ⟨rfl, hb2⟩
      have hb3 := Lib.hid (HB.out.trans (hb2.mono HB.out.size))
      clear hb2 HPx HB
      by_cases hpk : p l[k] = true
      · have hq := Lib.hid hpk
        rw [hpk]; clear hpk
        go_wp2
        go_ret
        exact ⟨ret_int (hi.out.trans (idxOf_yes p l k hlt hq.out)).symm, hb3.out⟩
      · have hpk : p l[k] = false := by simpa using hpk
        have hq := Lib.hid hpk
        rw [hpk]; clear hpk
        go_wp2
        go_roundw
        case rel => exact ⟨k + 1, by omega, by go_num, (by have := hi.out; rw [idxOf_no p l k hlt hq.out] at this; exact this), hb3.out⟩
        case measure => simp [intOf]; omega
    · have hd : decide (k < l.length) = false := by simpa using hlt
      go_wp2
      go_ret
      exact ⟨ret_int (hi.out.trans (idxOf_nil p l k hlt)).symm, hb⟩

set_option maxHeartbeats 1000000 in
theorem ContainsFunc_str (g : FuncId) (lb : Array Value) (eg : ∀ args w, (callFunc g args).run Tryz.prog w = .ok (.enter g args) w) (p : ByteArray → Bool) (A : Option Addr) (c : Nat) (l : List ByteArray) (w : World)
    (hp : ∀ (x : ByteArray) (W : World), Below w.heap.size w W → Calls Tryz.prog g (#[.string x] ++ lb) W fun e w' => e = .returned (.bool (p x)) ∧ Below W.heap.size W w')
    (hr : Kd.C Kd.string w A l.length l) (hc : l.length ≤ c) :
    Calls Tryz.prog 21 #[.slice A l.length c, .func (.func g) #[] lb] w fun e w' => e = .returned (.bool (l.any p)) ∧ Below w.heap.size w w' := by
  have cI := Lib.hid (IndexFunc_str g lb eg p A c l w hp hr hc)
  have hq := Lib.hid (idxOf_geq p l 0)
  clear hp hr
  go_enter Tryz.func21, Tryz.ntmps21
  go_wp2_with fail
  refine cI.out.mono ?_
  rintro e w1 ⟨rfl, hb⟩
  go_wp2
  go_ret
  exact ⟨ret_bool hq.out, hb⟩

end Go.Proofs.YthjcnifdlfjieaaGreatDoor.Ha
