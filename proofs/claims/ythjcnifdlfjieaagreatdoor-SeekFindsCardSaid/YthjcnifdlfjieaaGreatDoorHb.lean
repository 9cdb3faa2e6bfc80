import Derived.Test.YthjcnifdlfjieaaGreatDoorHa
set_option linter.unusedVariables false
set_option linter.unusedSimpArgs false
namespace Go.Proofs.YthjcnifdlfjieaaGreatDoor.Hb
open Go.RowKit Go.Shelf Go.Proofs.YthjcnifdlfjieaaGreatDoorW.PrintWords Go.Proofs.YthjcnifdlfjieaaGreatDoor.Ha

set_option maxHeartbeats 1000000 in
theorem Index_int (x : Int) (A : Option Addr) (c : Nat) (l : List Int) (w : World) (hr : Kd.C (Kd.int .i64) w A l.length l) (hc : l.length ≤ c) :
    Calls Tryz.prog 78 #[.slice A l.length c, .int .i64 x] w fun e w' => e = .returned (.int .i64 (idxOf (fun y => decide (x = y)) l 0)) ∧ w = w' := by
  go_enter Tryz.func78, Tryz.ntmps78
  have HR := Lib.hid hr
  have HL : l.length ≤ 9223372036854775807 := hr.2.1
  clear hr
  go_wp2
  go_loop [5, 8] (fun _ i => ∃ k : Nat, k ≤ l.length ∧ i = .int .i64 k ∧ Hid (idxOf (fun y => decide (x = y)) l 0 = idxOf (fun y => decide (x = y)) (l.drop k) k)) (fun _ i => l.length - (intOf i).toNat)
  case atStart => exact ⟨0, Nat.zero_le _, rfl, rfl⟩
  case round =>
    obtain ⟨k, hk, rfl, hi⟩ := hrel
    have hkm : k ≤ 9223372036854775807 := Nat.le_trans hk HL
    by_cases hlt : k < l.length
    · obtain ⟨ad, hA, hcell⟩ := C_cell HR.out k hlt
      subst hA
      have hd : decide (k < l.length) = true := by simpa using hlt
      by_cases hpk : x = l[k]
      · have hq : Hid (decide (x = l[k]) = true) := by show _ = _; simpa using hpk
        have hz : (x == l[k]) = true := by simpa using hpk
        clear hpk
        go_wp2
        go_ret
        exact ⟨ret_int (hi.out.trans (idxOf_yes _ l k hlt hq.out)).symm, rfl⟩
      · have hq : Hid (decide (x = l[k]) = false) := by show _ = _; simpa using hpk
        have hz : (x == l[k]) = false := by simpa using hpk
        clear hpk
        go_wp2
        go_round
        case rel => exact ⟨k + 1, by omega, by go_num, (by have := hi.out; rw [idxOf_no _ l k hlt hq.out] at this; exact this)⟩
        case measure => simp [intOf]; omega
    · have hd : decide (k < l.length) = false := by simpa using hlt
      go_wp2
      go_ret
      exact ⟨ret_int (hi.out.trans (idxOf_nil _ l k hlt)).symm, rfl⟩

set_option maxHeartbeats 1000000 in
theorem Contains_int (x : Int) (A : Option Addr) (c : Nat) (l : List Int) (w : World) (hr : Kd.C (Kd.int .i64) w A l.length l) (hc : l.length ≤ c) :
    Calls Tryz.prog 51 #[.slice A l.length c, .int .i64 x] w fun e w' => e = .returned (.bool (l.any (fun y => decide (x = y)))) ∧ w = w' := by
  have cI := Lib.hid (Index_int x A c l w hr hc)
  have hq := Lib.hid (idxOf_geq (fun y => decide (x = y)) l 0)
  clear hr
  go_enter Tryz.func51, Tryz.ntmps51
  go_wp2_with fail
  refine cI.out.mono ?_
  rintro e w1 ⟨rfl, rfl⟩
  go_wp2
  go_ret
  exact ⟨ret_bool hq.out, rfl⟩

theorem size1 (x : Int) (W : World) : Calls Tryz.prog 49 #[.int .i64 x] W fun e w' => e = .returned (.bool (decide (x < 0))) ∧ Below W.heap.size W w' := by
  go_enter Tryz.func49, Tryz.ntmps49
  go_wp2
  go_ret
  exact ⟨rfl, Below.refl _ _⟩
theorem size2 (x : Int) (W : World) : Calls Tryz.prog 50 #[.int .i64 x] W fun e w' => e = .returned (.bool (decide (1099511627776 < x))) ∧ Below W.heap.size W w' := by
  go_enter Tryz.func50, Tryz.ntmps50
  go_wp2
  go_ret
  exact ⟨rfl, Below.refl _ _⟩

def prodF : List Int → Int → Int × Int
  | [], a => (a, 0)
  | n :: l, a => if 4096 / a < n then (0, 8) else prodF l (a * n)
def sizeF (s : List Int) : Int × Int :=
  if 3 < s.length then (0, 3) else if s.any (fun x => decide (x < 0)) = true then (0, 5) else if s.any (fun x => decide (1099511627776 < x)) = true then (0, 8)
  else if s.any (fun y => decide (0 = y)) = true then (0, 0) else prodF s 1

theorem wrap_id {a : Int} (h0 : -9223372036854775808 ≤ a) (h1 : a ≤ 9223372036854775807) : wrap64 a = a := by unfold wrap64; omega
theorem ret_pair {k k' : IntKind} {p : Int × Int} {a b : Int} (h : p = (a, b)) : Ending.returned (.tuple #[.int k a, .int k' b]) = .returned (.tuple #[.int k p.1, .int k' p.2]) := by rw [h]
theorem prodF_nil (l : List Int) (k : Nat) (a : Int) (h : ¬ k < l.length) : prodF (l.drop k) a = (a, 0) := by rw [List.drop_eq_nil_of_le (by omega)]; rfl
theorem prodF_big (l : List Int) (k : Nat) (a : Int) (h : k < l.length) (hb : 4096 / a < l[k]) : prodF (l.drop k) a = (0, 8) := by rw [List.drop_eq_getElem_cons h]; simp [prodF, hb]
theorem prodF_fits (l : List Int) (k : Nat) (a : Int) (h : k < l.length) (hb : ¬ 4096 / a < l[k]) : prodF (l.drop k) a = prodF (l.drop (k + 1)) (a * l[k]) := by rw [List.drop_eq_getElem_cons h]; simp [prodF, hb]

set_option maxHeartbeats 2000000 in
theorem Size (A : Option Addr) (c : Nat) (l : List Int) (w : World) (hr : Kd.C (Kd.int .i64) w A l.length l) (hc : l.length ≤ c) :
    Calls Tryz.prog 20 #[.slice A l.length c] w fun e w' => e = .returned (.tuple #[.int .i64 (sizeF l).1, .int .i64 (sizeF l).2]) ∧ Below w.heap.size w w' := by
  have HR := Lib.hid hr
  have HL : l.length ≤ 9223372036854775807 := hr.2.1
  clear hr
  have e1 : ∀ args w, (callFunc 49 args).run Tryz.prog w = .ok (.enter 49 args) w := enters_of Tryz.func49 (by kernel_rfl) rfl
  have e2 : ∀ args w, (callFunc 50 args).run Tryz.prog w = .ok (.enter 50 args) w := enters_of Tryz.func50 (by kernel_rfl) rfl
  have c1 := Lib.hid (ContainsFunc_int 49 #[] e1 (fun x => decide (x < 0)) A c l w (fun x W _ => size1 x W) HR.out hc)
  have c2 := Lib.hid (fun w (h : Kd.C (Kd.int .i64) w A l.length l) => ContainsFunc_int 50 #[] e2 (fun x => decide (1099511627776 < x)) A c l w (fun x W _ => size2 x W) h hc)
  have c3 := Lib.hid (fun w (h : Kd.C (Kd.int .i64) w A l.length l) => Contains_int 0 A c l w h hc)
  clear e1 e2
  by_cases h3 : 3 < l.length
  · have hd : decide (3 < l.length) = true := by simpa using h3
    have hf : Hid (sizeF l = (0, 3)) := by show _ = _; simp [sizeF, h3]
    go_enter Tryz.func20, Tryz.ntmps20
    go_wp2_with fail
    go_ret2
    exact ⟨ret_pair hf.out, Below.refl _ _⟩
  have hd3 : decide (3 < l.length) = false := by simpa using h3
  cases hn : l.any (fun x => decide (x < 0)) with
  | true =>
    have hf : Hid (sizeF l = (0, 5)) := by show _ = _; simp only [sizeF, hn]; simp [h3]
    rw [hn] at c1; clear hn
    go_enter Tryz.func20, Tryz.ntmps20
    go_wp2_with fail
    refine c1.out.mono ?_
    rintro e w1 ⟨rfl, hb⟩
    have HB := Lib.hid hb; clear hb
    go_wp2_with fail
    go_ret2
    exact ⟨ret_pair hf.out, HB.out⟩
  | false =>
    rw [hn] at c1
    cases hg : l.any (fun x => decide (1099511627776 < x)) with
    | true =>
      have hf : Hid (sizeF l = (0, 8)) := by show _ = _; simp only [sizeF, hn, hg]; simp [h3]
      rw [hg] at c2; clear hn hg
      go_enter Tryz.func20, Tryz.ntmps20
      go_wp2_with fail
      refine c1.out.mono ?_
      rintro e w1 ⟨rfl, hb⟩
      have HB := Lib.hid hb; clear hb
      go_wp2_with fail
      refine (c2.out w1 (Kd.C_below HR.out HB.out)).mono ?_
      rintro e w2 ⟨rfl, hb⟩
      have HB2 := Lib.hid (HB.out.trans (hb.mono HB.out.size)); clear hb
      go_wp2_with fail
      go_ret2
      exact ⟨ret_pair hf.out, HB2.out⟩
    | false =>
      rw [hg] at c2
      cases hz : l.any (fun y => decide (0 = y)) with
      | true =>
        have hf : Hid (sizeF l = (0, 0)) := by show _ = _; simp only [sizeF, hn, hg, hz]; simp [h3]
        rw [hz] at c3; clear hn hg hz
        go_enter Tryz.func20, Tryz.ntmps20
        go_wp2_with fail
        refine c1.out.mono ?_
        rintro e w1 ⟨rfl, hb⟩
        have HB := Lib.hid hb; clear hb
        go_wp2_with fail
        refine (c2.out w1 (Kd.C_below HR.out HB.out)).mono ?_
        rintro e w2 ⟨rfl, hb⟩
        have HB2 := Lib.hid (HB.out.trans (hb.mono HB.out.size)); clear hb
        go_wp2_with fail
        refine (c3.out w2 (Kd.C_below HR.out HB2.out)).mono ?_
        rintro e w3 ⟨rfl, rfl⟩
        go_wp2_with fail
        go_ret2
        exact ⟨ret_pair hf.out, HB2.out⟩
      | false =>
        have hf : Hid (sizeF l = prodF l 1) := by show _ = _; simp only [sizeF, hn, hg, hz]; simp [h3]
        have hpos : Hid (∀ x ∈ l, 0 < x) := by
          intro x hx
          have h1 := List.any_eq_false.1 hn x hx
          have h2 := List.any_eq_false.1 hz x hx
          simp at h1 h2
          omega
        rw [hz] at c3; clear hn hg hz
        go_enter Tryz.func20, Tryz.ntmps20
        go_wp2_with fail
        refine c1.out.mono ?_
        rintro e w1 ⟨rfl, hb⟩
        have HB := Lib.hid hb; clear hb
        go_wp2_with fail
        refine (c2.out w1 (Kd.C_below HR.out HB.out)).mono ?_
        rintro e w2 ⟨rfl, hb⟩
        have HB2 := Lib.hid (HB.out.trans (hb.mono HB.out.size)); clear hb
        go_wp2_with fail
        refine (c3.out w2 (Kd.C_below HR.out HB2.out)).mono ?_
        rintro e w3 ⟨rfl, rfl⟩
        go_wp2_with fail
        have HR2 := Lib.hid (Kd.C_below HR.out HB2.out)
        clear c1 c2 c3 HR
        go_loop [4, 6, 22] (fun s _ i => ∃ (k : Nat) (a : Int), k ≤ l.length ∧ i = .int .i64 k ∧ s = .int .i64 a ∧ 1 ≤ a ∧ a ≤ 4096 ∧ Hid (prodF l 1 = prodF (l.drop k) a)) (fun _ _ i => l.length - (intOf i).toNat)
        case atStart => exact ⟨0, 1, Nat.zero_le _, rfl, rfl, by omega, by omega, rfl⟩
        case round =>
          obtain ⟨k, a, hk, rfl, rfl, ha1, ha2, hi⟩ := hrel
          have hkm : k ≤ 9223372036854775807 := Nat.le_trans hk HL
          by_cases hlt : k < l.length
          · obtain ⟨ad, hA, hcell⟩ := C_cell HR2.out k hlt
            subst hA
            have hd : decide (k < l.length) = true := by simpa using hlt
            have hx : 0 < l[k] := hpos.out _ (List.getElem_mem _)
            have haz : ¬ (a = 0) := by omega
            have hdiv : 0 ≤ 4096 / a ∧ 4096 / a ≤ 4096 := ⟨Int.ediv_nonneg (by omega) (by omega), Int.ediv_le_self _ (by omega)⟩
            by_cases hbig : 4096 / a < l[k]
            · have hq := Lib.hid (hi.out.trans (prodF_big l k a hlt hbig))
              go_wp2
              go_ret2
              exact ⟨ret_pair (hf.out.trans hq.out), HB2.out⟩
            · have hq := Lib.hid (hi.out.trans (prodF_fits l k a hlt hbig))
              have hm1 : Hid (a * l[k] ≤ 4096) := by
                have h1 : l[k] ≤ 4096 / a := by omega
                have h2 := Int.mul_le_mul_of_nonneg_left h1 (by omega : 0 ≤ a)
                have h3 := Int.mul_ediv_self_le (x := 4096) (k := a) (by omega)
                exact Int.le_trans h2 h3
              have hm0 : Hid (1 ≤ a * l[k]) := Int.mul_pos (by omega) hx
              have hb1 : l[k] ≤ 4096 / a := by omega
              go_wp2
              exact ⟨⟨k + 1, a * l[k], by omega, by go_num, by rw [wrap_id (by have := hm0.out; omega) (by have := hm1.out; omega)], hm0.out, hm1.out, hq.out⟩, by simp [intOf]; omega⟩
          · have hd : decide (k < l.length) = false := by simpa using hlt
            have hq := Lib.hid (hi.out.trans (prodF_nil l k a hlt))
            go_wp2
            go_ret2
            exact ⟨ret_pair (hf.out.trans hq.out), HB2.out⟩
end Go.Proofs.YthjcnifdlfjieaaGreatDoor.Hb
