import Derived.Test.YthjcnifdlfjieaaGreatDoorHc
import Derived.Test.YthjcnifdlfjieaaGreatDoorHp
import Derived.Test.YthjcnifdlfjieaaGreatDoorShelf
set_option linter.unusedVariables false
set_option linter.unusedSimpArgs false
namespace Go.Proofs.YthjcnifdlfjieaaGreatDoor.Hd
open Go.RowKit Go.Shelf Go.Proofs.YthjcnifdlfjieaaGreatDoorW.PrintWords Go.Proofs.YthjcnifdlfjieaaGreatDoor.Ha Go.Proofs.YthjcnifdlfjieaaGreatDoor.Hb Go.Proofs.YthjcnifdlfjieaaGreatDoor.Hc Go.Proofs.YthjcnifdlfjieaaGreatDoor.Hp

theorem nodig_int (r : Nat) : (decide ((r : Int) < 48) || decide (57 < (r : Int))) = nodig r := by
  unfold nodig; rw [Bool.eq_iff_iff]; simp only [Bool.or_eq_true, decide_eq_true_eq]; omega
theorem nodig_lt (r : Nat) (h : (r : Int) < 48) : true = nodig r := by
  unfold nodig; symm; rw [Bool.or_eq_true, decide_eq_true_eq]; left; omega

theorem may1 (r : Nat) (W : World) : Calls Tryz.prog 55 #[.int .i32 r] W fun e w' => e = .returned (.bool (nodig r)) ∧ ∃ q, w' = W.drewN q := by
  go_enter Tryz.func55, Tryz.ntmps55
  go_wp2
  all_goals go_ret
  all_goals first
    | exact ⟨ret_bool (nodig_int r), 0, rfl⟩
    | exact ⟨ret_bool (nodig_lt r ‹_›), 0, rfl⟩

def bare (s : ByteArray) : ByteArray := ⟨(Lib.trimPrefix s.data.toList [45]).toArray⟩
theorem bare_calls (s : ByteArray) (w : World) : Calls Tryz.prog 53 #[.string s, .string ⟨#[45]⟩] w fun e w' => e = .returned (.string (bare s)) ∧ w = w' :=
  (Tryz.strings_TrimPrefix s ⟨#[45]⟩ w).mono fun e w' ⟨he, hw⟩ => ⟨he, hw.symm⟩

def mayB (s : ByteArray) : Bool :=
  if (bare s).size < 1 then false else if 100 < (bare s).size then false else if (bare s).data.toList.head? = some 48 ∧ ¬ s.toList = [48] then false else digits (bare s)
theorem may_a (s : ByteArray) (h : ((bare s).size : Int) < 1) : mayB s = false := by unfold mayB; rw [if_pos (by omega)]
theorem may_b (s : ByteArray) (h : 1 ≤ ((bare s).size : Int)) (h2 : 100 < ((bare s).size : Int)) : mayB s = false := by unfold mayB; rw [if_neg (by omega), if_pos (by omega)]
theorem head_of (f : ByteArray) (h : 0 < f.size) : f.data.toList.head? = some f[0] := by
  rw [List.head?_eq_getElem?, List.getElem?_eq_getElem (by simpa using h)]
  rfl
theorem may_c (s : ByteArray) (h : 1 ≤ ((bare s).size : Int)) (h2 : ((bare s).size : Int) ≤ 100) (h3 : 0 < (bare s).size) (h4 : ((bare s)[0].toNat : Int) = 48) (h5 : (((bare s).size : Int) < 1 ∨ 100 < ((bare s).size : Int)) ∨ (!s.toList == [48]) = true) : mayB s = false := by
  unfold mayB
  have h6 : (!s.toList == [48]) = true := by
    rcases h5 with h5 | h5
    · omega
    · exact h5
  have h7 : (bare s).data.toList.head? = some 48 := by
    rw [head_of _ h3]; congr 1; exact UInt8.toNat_inj.1 (show (bare s)[0].toNat = 48 by omega)
  rw [if_neg (by omega), if_neg (by omega), if_pos ⟨h7, by simpa using h6⟩]
theorem may_d (s : ByteArray) (h : 1 ≤ ((bare s).size : Int)) (h2 : ((bare s).size : Int) ≤ 100) (h5 : (1 ≤ ((bare s).size : Int) ∧ ((bare s).size : Int) ≤ 100) ∧ (!s.toList == [48]) = false) : mayB s = digits (bare s) := by
  unfold mayB
  rw [if_neg (by omega), if_neg (by omega), if_neg (fun h => h.2 (by simpa using h5.2))]
theorem may_e (s : ByteArray) (h : 1 ≤ ((bare s).size : Int)) (h2 : ((bare s).size : Int) ≤ 100) (h3 : 0 < (bare s).size) (h4 : ¬ ((bare s)[0].toNat : Int) = 48) : mayB s = digits (bare s) := by
  unfold mayB
  rw [if_neg (by omega), if_neg (by omega), if_neg]
  rintro ⟨h6, _⟩
  rw [head_of _ h3] at h6
  injection h6 with h6
  rw [h6] at h4
  exact h4 rfl

theorem fun_digits (s : ByteArray) (w : World) : Calls Tryz.prog 54 #[.string s, .func (.func 55) #[] #[]] w fun e w' => e = .returned (.bool (!digits s)) ∧ Below w.heap.size w w' :=
  (Tryz.strings_ContainsFunc 55 #[] (enters_of Tryz.func55 (by kernel_rfl) rfl) nodig s w (fun W r _ => may1 r W)).mono fun e w' ⟨he, hb⟩ => ⟨by rw [he, contains_digits], hb⟩

set_option maxHeartbeats 1000000 in
theorem May (s : ByteArray) (w : World) : Calls Tryz.prog 23 #[.string s] w fun e w' => e = .returned (.bool (mayB s)) ∧ Below w.heap.size w w' := by
  go_enter Tryz.func23, Tryz.ntmps23
  go_wp2_with fail
  refine (bare_calls _ _).mono ?_
  rintro e w' ⟨rfl, rfl⟩
  go_wp2_with (go_at_call 54; refine (fun_digits _ _).mono ?_; rintro e w1 ⟨rfl, hb⟩; have HB := Lib.hid hb; clear hb)
  all_goals go_ret
  all_goals first
    | exact ⟨ret_bool (may_a s ‹_›).symm, Below.refl _ _⟩
    | exact ⟨ret_bool (may_b s ‹_› ‹_›).symm, Below.refl _ _⟩
    | exact ⟨ret_bool (may_c s ‹_› ‹_› ‹_› ‹_› ‹_›).symm, Below.refl _ _⟩
    | exact ⟨ret_bool (may_d s ‹_› ‹_› ‹_›).symm, HB.out⟩
    | exact ⟨ret_bool (may_e s ‹_› ‹_› ‹_› ‹_›).symm, HB.out⟩
end Go.Proofs.YthjcnifdlfjieaaGreatDoor.Hd
