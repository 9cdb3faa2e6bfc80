import Derived.Test.YthjcnifdlfjieaaGreatDoorHl
set_option linter.unusedVariables false
set_option linter.unusedSimpArgs false
namespace Go.Proofs.YthjcnifdlfjieaaGreatDoor.Hn
open Go.RowKit Go.Shelf Go.Proofs.YthjcnifdlfjieaaGreatDoorW.PrintWords Go.Proofs.YthjcnifdlfjieaaGreatDoor.Ha Go.Proofs.YthjcnifdlfjieaaGreatDoor.Hb Go.Proofs.YthjcnifdlfjieaaGreatDoor.Hc Go.Proofs.YthjcnifdlfjieaaGreatDoor.Hp Go.Proofs.YthjcnifdlfjieaaGreatDoor.Hd Go.Proofs.YthjcnifdlfjieaaGreatDoor.He Go.Proofs.YthjcnifdlfjieaaGreatDoor.Hf Go.Proofs.YthjcnifdlfjieaaGreatDoor.Hg Go.Proofs.YthjcnifdlfjieaaGreatDoor.Hh Go.Proofs.YthjcnifdlfjieaaGreatDoor.Hi Go.Proofs.YthjcnifdlfjieaaGreatDoor.Hm Go.Proofs.YthjcnifdlfjieaaGreatDoor.Hj Go.Proofs.YthjcnifdlfjieaaGreatDoor.Hk Go.Proofs.YthjcnifdlfjieaaGreatDoor.Hl

def itemsN (s : List Int) : Int := match s with | [] => 1 | n :: _ => n
theorem int_info : ∃ i, Tryz.prog.info? 3 = some i ∧ i.zero = some (.int .i64 0) ∧ i.size = 1 ∧ i.bytes = 8 := info_parts info_int

set_option maxHeartbeats 2000000 in
theorem Items (A : Option Addr) (c : Nat) (s : List Int) (w : World) (hr : Kd.C (Kd.int .i64) w A s.length s) (hc : s.length ≤ c) (hn : s.length ≤ 4294967296) :
    Calls Tryz.prog 32 #[.slice A s.length c] w fun e w' => ∃ v, e = .returned (.tuple #[.int .i64 (itemsN s), v]) ∧ Ow (Kd.int .i64) 3 w.heap.size v (s.drop 1) w' ∧ Below w.heap.size w w' := by
  by_cases h0 : 0 < s.length
  · obtain ⟨x, l, rfl⟩ : ∃ x l, s = x :: l := by cases s with | nil => simp at h0 | cons x l => exact ⟨x, l, rfl⟩
    obtain ⟨ad, rfl, hcell⟩ := C_cell hr 0 h0
    rw [Addr.add_zero'] at hcell
    have hx : (x :: l)[0] = x := rfl
    rw [hx] at hcell
    have hz : decide (0 < (x :: l).length) = true := by simp
    have hl1 : (x :: l).length = l.length + 1 := by simp
    rw [hl1] at hc hn hr
    have hd := Kd.C_drop (m := 1) (hl1 ▸ hr) (by simp) (by rw [hl1]; exact hc)
    have hdl : (x :: l).drop 1 = l := rfl
    obtain ⟨i0, hi0, _, hsz, _⟩ := int_info
    have hcut := cut_from (P := Tryz.prog) 22 3 .i64 Tryz.underlying22 hi0 1 hsz (some ad) (l.length + 1) c 1 (by omega) (by omega)
    obtain ⟨A1, hA1⟩ : ∃ A1, A1 = (if c = (1 : Int).toNat then (some ad) else ((some ad) : Option Addr).map (·.add ((1 : Int).toNat * 1))) := ⟨_, rfl⟩
    rw [← hA1] at hcut
    have hd2 : Kd.C (Kd.int .i64) w A1 l.length l := by rw [hA1]; exact hd
    have e1 : l.length + 1 - (1 : Int).toNat = l.length := by simp
    have e2 : c - (1 : Int).toNat = c - 1 := by simp
    rw [e1, e2] at hcut
    have cl := Lib.hid (fun (W : World) (h : Below w.heap.size w W) => Clone_int A1 (c - 1) l W (Kd.C_below hd2 h) (by omega) (by omega))
    rw [hl1, hdl]
    have hN : itemsN (x :: l) = x := rfl
    rw [hN]
    clear hr hd hd2 hA1 e1 e2 hi0 hsz hx hz hl1 hdl h0 hN
    go_enter Tryz.func32, Tryz.ntmps32
    go_wp2_with fail
    go_region_law (first
      | (go_simp
         go_at_call 26
         refine (cl.out _ (by first | exact (Below.refl _ _).drew | exact Below.refl _ _)).mono ?_
         rintro e w6 ⟨v, rfl, ho, hb6⟩
         have hb6' : Below w.heap.size w w6 := (Below.refl _ w).drew.trans (hb6.mono (Nat.le_refl _))
         have kg6 := pw_cell_below hb6' hcell
         have HO6 := Lib.hid ho
         have HB6 := Lib.hid hb6'
         clear ho hb6 hb6'))
    all_goals
      go_wp2
      go_ret2
      exact ⟨v, rfl, HO6.out, HB6.out⟩
  · obtain rfl : s = [] := List.eq_nil_of_length_eq_zero (by omega)
    go_enter Tryz.func32, Tryz.ntmps32
    clear hr
    go_wp2
    go_ret2
    exact ⟨_, rfl, own_nilI _ _, Below.refl _ _⟩

set_option maxHeartbeats 1000000 in
theorem Many (u : Value) (x : V) (w : World) (hu : IsVal w u x) (hn : x.sh.length ≤ 4294967296) :
    Calls Tryz.prog 31 #[u] w fun e w' => e = .returned (.int .i64 (itemsN x.sh)) ∧ Below w.heap.size w w' := by
  obtain ⟨a, b, rfl, ⟨A, c, rfl, hc, hr⟩, ⟨B, d, rfl, hd, hs⟩⟩ := hu
  have hW := below_alloc (Below.refl w.heap.size w) (.cells #[.slice A x.sh.length c, .slice B x.el.length d] 25)
  have c1 := Lib.hid (Items A c x.sh _ (Kd.C_below hr hW) hc hn)
  have HW := Lib.hid hW
  clear hr hs hW
  go_enter Tryz.func31, Tryz.ntmps31
  go_wp2_with fail
  refine c1.out.mono ?_
  rintro e w1 ⟨v, rfl, ho, hb⟩
  have HB := Lib.hid (HW.out.trans (hb.mono HW.out.size))
  clear ho hb
  go_wp2
  go_ret
  exact ⟨rfl, HB.out⟩

/-- The numbers of an array as places among m. -/
def placesF (l : List ByteArray) (m : Int) : List Int × Int := match allF l with | none => ([], 5) | some r => if r.any (fun n => decide (n < 0) || decide (m ≤ n)) then ([], 6) else (r, 0)

set_option maxHeartbeats 1000000 in
theorem places1 (m x : Int) (g : Nat) (W : World) (hg : W.cell? ⟨g, 0, none⟩ = some (.int .i64 m)) :
    Calls Tryz.prog 62 (#[.int .i64 x] ++ #[.pointer (some ⟨g, 0, none⟩)]) W fun e w' => e = .returned (.bool (decide (x < 0) || decide (m ≤ x))) ∧ Below W.heap.size W w' := by
  show Calls _ _ #[.int .i64 x, .pointer (some ⟨g, 0, none⟩)] _ _
  go_enter Tryz.func62, Tryz.ntmps62
  by_cases h : x < 0
  · go_wp2
    go_ret
    exact ⟨ret_bool (by simp [h]), Below.refl _ _⟩
  · go_wp2
    go_ret
    exact ⟨ret_bool (by rw [decide_eq_false (show ¬ x < 0 by omega)]; simp), Below.refl _ _⟩

set_option maxHeartbeats 2000000 in
theorem places (u : Value) (x : V) (m : Int) (w : World) (hG : G w) (hu : IsVal w u x) (hn : x.el.length ≤ 4294967296) :
    Calls Tryz.prog 30 #[u, .int .i64 m] w fun e w' => ∃ v, e = .returned (.tuple #[v, .int .i64 (placesF x.el m).2]) ∧ Ow (Kd.int .i64) 3 w.heap.size v (placesF x.el m).1 w' ∧ Below w.heap.size w w' := by
  obtain ⟨a, b, rfl, ⟨A, c, rfl, hc, hr⟩, ⟨B, d, rfl, hd, hs⟩⟩ := id hu
  have hW := below_alloc (below_alloc (Below.refl w.heap.size w) (.cells #[.slice A x.sh.length c, .slice B x.el.length d] 25)) (.cells #[.int .i64 m] 3)
  have c1 := Lib.hid (All _ x _ (hG.below hW) (hu.below hW) hn)
  have b1 := blk_new (w.alloc (.cells #[.slice A x.sh.length c, .slice B x.el.length d] 25)) (.cells #[.int .i64 m] 3)
  simp only [World.size_alloc] at b1
  have b1 := Lib.hid b1
  have HW := Lib.hid hW
  have e1 : ∀ args w, (callFunc 62 args).run Tryz.prog w = .ok (.enter 62 args) w := enters_of Tryz.func62 (by kernel_rfl) rfl
  have c2 := Lib.hid (fun (A1 : Option Addr) (d1 : Nat) (l : List Int) (W1 : World) (hg : W1.heap[w.heap.size + 1]? = some (.cells #[.int .i64 m] 3 (0, 0))) (h : Kd.C (Kd.int .i64) W1 A1 l.length l) (h2 : l.length ≤ d1) =>
    ContainsFunc_int 62 #[.pointer (some ⟨w.heap.size + 1, 0, none⟩)] e1 (fun n => decide (n < 0) || decide (m ≤ n)) A1 d1 l W1 (fun n W hW => places1 m n _ W (blk_cell (blk_below hg hW) 0)) h h2)
  clear hr hs hW hu hG e1
  cases hp : allF x.el with
  | none =>
    have hq : placesF x.el m = ([], 5) := by unfold placesF; rw [hp]
    rw [hq]
    have c1' := Lib.hid (c1.out); rw [hp] at c1'
    clear c1 hq hp
    go_enter Tryz.func30, Tryz.ntmps30
    go_wp2_with fail
    refine c1'.out.mono ?_
    rintro e w1 ⟨⟨u, rfl, ho⟩, hb⟩
    obtain ⟨A1, d1, rfl, hd1, hr1⟩ := ho.row
    have h5 : e5 (none : Option (List Int)) = 5 := rfl
    rw [h5]
    have HB := Lib.hid (HW.out.trans (hb.mono HW.out.size))
    clear ho hb hr1
    go_wp2
    go_ret2
    exact ⟨_, rfl, own_nilI _ _, HB.out⟩
  | some r =>
    have c1' := Lib.hid (c1.out); rw [hp] at c1'
    clear c1
    by_cases ha : r.any (fun n => decide (n < 0) || decide (m ≤ n)) = true
    · have hq : placesF x.el m = ([], 6) := by unfold placesF; rw [hp]; exact if_pos ha
      rw [hq]
      have HA := Lib.hid ha
      clear hq hp ha
      go_enter Tryz.func30, Tryz.ntmps30
      go_wp2_with fail
      refine c1'.out.mono ?_
      rintro e w1 ⟨⟨u, rfl, ho⟩, hb⟩
      obtain ⟨A1, d1, e1, hd1, hr1⟩ := ho.row
      have hz : zl (some r) = r := rfl
      rw [hz] at e1 hd1 hr1
      subst e1
      have h5 : e5 (some r) = 0 := rfl
      rw [h5]
      have c3 := Lib.hid (c2.out A1 d1 r w1 (blk_below b1.out hb) hr1 hd1)
      rw [HA.out] at c3
      have HB := Lib.hid (HW.out.trans (hb.mono HW.out.size))
      clear ho hb hr1
      go_wp2_with fail
      refine c3.out.mono ?_
      rintro e w2 ⟨rfl, hb⟩
      have HB2 := Lib.hid (HB.out.trans (hb.mono HB.out.size))
      clear hb
      go_wp2
      go_ret2
      exact ⟨_, rfl, own_nilI _ _, HB2.out⟩
    · have hq : placesF x.el m = (r, 0) := by unfold placesF; rw [hp]; exact if_neg ha
      rw [hq]
      have ha' : r.any (fun n => decide (n < 0) || decide (m ≤ n)) = false := by simpa using ha
      have HA := Lib.hid ha'
      clear hq hp ha ha'
      go_enter Tryz.func30, Tryz.ntmps30
      go_wp2_with fail
      refine c1'.out.mono ?_
      rintro e w1 ⟨⟨u, rfl, ho⟩, hb⟩
      have hz : zl (some r) = r := rfl
      rw [hz] at ho
      obtain ⟨A1, d1, rfl, hd1, hr1⟩ := ho.row
      have h5 : e5 (some r) = 0 := rfl
      rw [h5]
      have c3 := Lib.hid (c2.out A1 d1 r w1 (blk_below b1.out (hb.mono (by simp))) hr1 hd1)
      rw [HA.out] at c3
      have HB := Lib.hid (HW.out.trans (hb.mono HW.out.size))
      have HO := Lib.hid (ho.lower HW.out.size)
      clear ho hb hr1
      go_wp2_with fail
      refine c3.out.mono ?_
      rintro e w2 ⟨rfl, hb⟩
      have HB2 := Lib.hid (HB.out.trans (hb.mono HB.out.size))
      have HO2 := Lib.hid (HO.out.below hb)
      clear hb
      go_wp2
      go_ret2
      exact ⟨_, rfl, HO2.out, HB2.out⟩
end Go.Proofs.YthjcnifdlfjieaaGreatDoor.Hn
