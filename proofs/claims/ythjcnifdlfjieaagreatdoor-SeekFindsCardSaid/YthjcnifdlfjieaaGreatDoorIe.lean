import Derived.Test.YthjcnifdlfjieaaGreatDoorId
set_option linter.unusedVariables false
set_option linter.unusedSimpArgs false
namespace Go.Proofs.YthjcnifdlfjieaaGreatDoor.Ie
open Go.RowKit Go.Shelf Go.Proofs.YthjcnifdlfjieaaGreatDoorW.PrintWords Go.Proofs.YthjcnifdlfjieaaGreatDoor.Ha Go.Proofs.YthjcnifdlfjieaaGreatDoor.Hb Go.Proofs.YthjcnifdlfjieaaGreatDoor.Hc Go.Proofs.YthjcnifdlfjieaaGreatDoor.Hp Go.Proofs.YthjcnifdlfjieaaGreatDoor.Hd Go.Proofs.YthjcnifdlfjieaaGreatDoor.He Go.Proofs.YthjcnifdlfjieaaGreatDoor.Hf Go.Proofs.YthjcnifdlfjieaaGreatDoor.Hg Go.Proofs.YthjcnifdlfjieaaGreatDoor.Hh Go.Proofs.YthjcnifdlfjieaaGreatDoor.Hi Go.Proofs.YthjcnifdlfjieaaGreatDoor.Hm Go.Proofs.YthjcnifdlfjieaaGreatDoor.Hj Go.Proofs.YthjcnifdlfjieaaGreatDoor.Hk Go.Proofs.YthjcnifdlfjieaaGreatDoor.Hl Go.Proofs.YthjcnifdlfjieaaGreatDoor.Hn Go.Proofs.YthjcnifdlfjieaaGreatDoor.Ho Go.Proofs.YthjcnifdlfjieaaGreatDoor.Hq Go.Proofs.YthjcnifdlfjieaaGreatDoor.Hr Go.Proofs.YthjcnifdlfjieaaGreatDoor.Hs Go.Proofs.YthjcnifdlfjieaaGreatDoor.Ht Go.Proofs.YthjcnifdlfjieaaGreatDoor.Hu Go.Proofs.YthjcnifdlfjieaaGreatDoor.Hv Go.Proofs.YthjcnifdlfjieaaGreatDoor.Hw Go.Proofs.YthjcnifdlfjieaaGreatDoor.Hx Go.Proofs.YthjcnifdlfjieaaGreatDoor.Hy Go.Proofs.YthjcnifdlfjieaaGreatDoor.Ia Go.Proofs.YthjcnifdlfjieaaGreatDoor.Ib Go.Proofs.YthjcnifdlfjieaaGreatDoor.Ic Go.Proofs.YthjcnifdlfjieaaGreatDoor.Id

set_option maxHeartbeats 1000000 in
theorem Up3 (u : Value) (w : World) (hG : G w) (hv : IsVal w u x3) :
    Calls Tryz.prog 17 #[u] w fun e w' => RV w.heap.size r3 e w' ∧ Below w.heap.size w w' := by
  obtain ⟨a, b, rfl, ⟨A, c, rfl, hc, hr⟩, ⟨B, d, rfl, hd, hs⟩⟩ := id hv
  have hW := below_alloc (below_alloc (Below.refl w.heap.size w) (.cells #[.slice A x3.sh.length c, .slice B x3.el.length d] 25)) (.cells #[.slice none 0 0, .slice none 0 0] 25)
  have c1 := Lib.hid (order3 keys _ _ (hG.below hW) (hv.below hW) fine3)
  have b1 := blk_new (w.alloc (.cells #[.slice A x3.sh.length c, .slice B x3.el.length d] 25)) (.cells #[.slice none 0 0, .slice none 0 0] 25)
  simp only [World.size_alloc] at b1
  have B1 := Lib.hid b1
  have HW := Lib.hid hW
  clear hr hs hW hv b1 hG
  go_enter Tryz.func17, Tryz.ntmps17
  go_wp2_with fail
  refine c1.out.mono ?_
  rintro e w1 ⟨⟨u1, rfl, hu⟩, hb⟩
  have hbox2 := blk_below B1.out (hb.mono (by simp))
  have k0 : w1.cell? ⟨w.heap.size + 1, 0, none⟩ = some (.slice none 0 0) := blk_cell hbox2 0
  have k1 : w1.cell? ⟨w.heap.size + 1, 1, none⟩ = some (.slice none 0 0) := blk_cell hbox2 1
  have f0 := blk_frozen hbox2 0
  have f1 := blk_frozen hbox2 1
  obtain ⟨a5, b5, rfl, ha5, hbb5⟩ := hu
  have HF := Lib.hid (fin2 (W := w) (x := r3.1) hbox2 (ha5.lower HW.out.size) (hbb5.lower HW.out.size) (HW.out.trans (hb.mono HW.out.size)) (by omega))
  obtain ⟨A6, d6, rfl, -⟩ := ha5.row
  obtain ⟨A7, d7, rfl, -⟩ := hbb5.row
  clear hb ha5 hbb5 hbox2
  go_wp2
  refine bodyPost_ret (v := .tuple #[.agg #[.slice A6 r3.1.sh.length d6, .slice A7 r3.1.el.length d7], .int .i64 r3.2]) (by simp [results, Tryz.results17, go_sem, k0, k1]) rfl ?_
  exact ⟨⟨_, rfl, HF.out.1⟩, HF.out.2⟩

theorem own_three (W : World) (base : Nat) (a b c : Int) (hb : base ≤ W.heap.size) : Ow (Kd.int .i64) 3 base (.slice (some ⟨W.heap.size, 0, none⟩) 3 3) [a, b, c] (W.alloc (.cells #[.int .i64 a, .int .i64 b, .int .i64 c] 3)) :=
  ⟨⟨fun _ _ => trivial, OwnRow.lit (ps := [a, b, c]) (inner := [.int .i64 a, .int .i64 b, .int .i64 c]) W base ((((Reps.none _ _).snoc (p := a) (c := [.int .i64 a]) rfl rfl).snoc (p := b) (c := [.int .i64 b]) rfl rfl).snoc (p := c) (c := [.int .i64 c]) rfl rfl) hb (by simp)⟩⟩
theorem i64_small (a b c : Int) (h : (0 ≤ a ∧ a ≤ 100) ∧ (0 ≤ b ∧ b ≤ 100) ∧ 0 ≤ c ∧ c ≤ 100) : I64 [a, b, c] := by
  intro x hx
  simp at hx
  omega
theorem Ints3 (a b c : Int) (g : Nat) (w W : World) (hg : g = W.heap.size) (hG : G w) (hb : Below w.heap.size w W) (h : (0 ≤ a ∧ a ≤ 100) ∧ (0 ≤ b ∧ b ≤ 100) ∧ 0 ≤ c ∧ c ≤ 100) :
    Calls Tryz.prog 18 #[.slice (some ⟨g, 0, none⟩) 3 3] (W.alloc (.cells #[.int .i64 a, .int .i64 b, .int .i64 c] 3)) fun e w' => ∃ u, e = .returned u ∧ OwnVal W.heap.size u ⟨[3], [a, b, c].map ofF⟩ w' ∧ Below W.heap.size W w' := by
  subst hg
  refine (Ints _ [a, b, c] _ ((hG.below hb).below (below_alloc (Below.refl _ _) _)) (own_three W W.heap.size a b c (Nat.le_refl _)).row (i64_small a b c h) (Nat.le_of_ble_eq_true rfl)).mono ?_
  rintro e w' ⟨u, he, hu, hb⟩
  exact ⟨u, he, hu.lower (by simp), (below_alloc (Below.refl _ _) _).trans (hb.mono (by simp))⟩

theorem Ints3d (a b c : Int) (g : Nat) (w W : World) (hg : g = W.heap.size) (hG : G w) (hb : Below w.heap.size w W) (h : (0 ≤ a ∧ a ≤ 100) ∧ (0 ≤ b ∧ b ≤ 100) ∧ 0 ≤ c ∧ c ≤ 100) :
    Calls Tryz.prog 18 #[.slice (some ⟨g, 0, none⟩) 3 3] (W.alloc (.cells #[.int .i64 a, .int .i64 b, .int .i64 c] 3)).drew fun e w' => ∃ u, e = .returned u ∧ OwnVal W.heap.size u ⟨[3], [a, b, c].map ofF⟩ w' ∧ Below W.heap.size W w' := by
  subst hg
  refine (Ints _ [a, b, c] _ ((hG.below hb).below ((below_alloc (Below.refl _ _) _).drew)) ((own_three W W.heap.size a b c (Nat.le_refl _)).row.below (Below.refl _ _).drew) (i64_small a b c h) (Nat.le_of_ble_eq_true rfl)).mono ?_
  rintro e w' ⟨u, he, hu, hb⟩
  exact ⟨u, he, hu.lower (by simp), ((below_alloc (Below.refl _ _) _).drew).trans (hb.mono (by simp))⟩
theorem same_yes (u v : Value) (x : V) (w : World) (hu : IsVal w u x) (hv : IsVal w v x) : Calls Tryz.prog 12 #[u, v] w fun e w' => e = .returned (.bool true) ∧ Below w.heap.size w w' :=
  (SameV u v x x w hu hv).mono fun e w' ⟨he, hb⟩ => ⟨by rw [he, tt_yes rfl], hb⟩

set_option maxRecDepth 100000 in
set_option maxHeartbeats 4000000 in
theorem shown (w : World) (hG : G w) : Calls Tryz.prog 5 #[] w fun e w' => e = .returned (.bool true) ∧ Below w.heap.size w w' := by
  have HG := Lib.hid hG
  have cI := Lib.hid (fun (g : Nat) (W : World) (hg : g = W.heap.size) (hb : Below w.heap.size w W) (a b c : Int) (h : (0 ≤ a ∧ a ≤ 100) ∧ (0 ≤ b ∧ b ≤ 100) ∧ 0 ≤ c ∧ c ≤ 100) => Ints3 a b c g w W hg hG hb h)
  have cD := Lib.hid (fun (g : Nat) (W : World) (hg : g = W.heap.size) (hb : Below w.heap.size w W) (a b c : Int) (h : (0 ≤ a ∧ a ≤ 100) ∧ (0 ≤ b ∧ b ≤ 100) ∧ 0 ≤ c ∧ c ≤ 100) => Ints3d a b c g w W hg hG hb h)
  clear hG
  go_enter Tryz.func5, Tryz.ntmps5
  go_wp2_with fail
  refine (cI.out _ _ rfl (Below.refl _ _) 30 10 20 (by decide)).mono ?_
  rintro e w1 ⟨u1, rfl, hu1, hb1⟩
  have HB1 := Lib.hid hb1
  have c2 := Lib.hid (Up3 u1 w1 (HG.out.below hb1) hu1.isVal)
  clear hu1 hb1
  go_wp2_with fail
  refine c2.out.mono ?_
  rintro e w2 ⟨⟨u2, rfl, hu2⟩, hb2⟩
  have HB2 := Lib.hid (HB1.out.trans (hb2.mono HB1.out.size))
  obtain ⟨a2, b2, rfl, ha2, hbb2⟩ := hu2
  have HV2 := Lib.hid (OwnVal.isVal ⟨_, _, rfl, ha2, hbb2⟩)
  obtain ⟨A2, d2, rfl, -⟩ := ha2.row
  obtain ⟨A3, d3, rfl, -⟩ := hbb2.row
  clear ha2 hbb2 hb2 c2
  simp only [show r3.2 = (0 : Int) from rfl, show r3.1.sh.length = 1 from rfl, show r3.1.el.length = 3 from rfl] at HV2 ⊢
  have HB3 := Lib.hid (below_alloc HB2.out (.cells #[.slice A2 1 d2, .slice A3 3 d3] 25))
  have bx := Lib.hid (blk_new w2 (.cells #[.slice A2 1 d2, .slice A3 3 d3] 25))
  have HV3 := Lib.hid (HV2.out.below (below_alloc (Below.refl _ _) (.cells #[.slice A2 1 d2, .slice A3 3 d3] 25)))
  have hz3 : (w2.alloc (.cells #[.slice A2 1 d2, .slice A3 3 d3] 25)).heap.size = w2.heap.size + 1 := by simp
  have HZ3 := Lib.hid hz3
  clear hz3
  go_wp2_with fail
  refine (cI.out _ _ HZ3.out.symm HB3.out 0 2 1 (by decide)).mono ?_
  rintro e w4 ⟨u4, rfl, hu4, hb4⟩
  have HB4 := Lib.hid (HB3.out.trans (hb4.mono HB3.out.size))
  have bx4 := Lib.hid (blk_below bx.out hb4)
  have HV4 := Lib.hid (HV3.out.below hb4)
  have c4 := Lib.hid (Where_ok u4 y3 [0, 2, 1] w4 (HG.out.below HB4.out) hu4.isVal (by decide) fineY allY (by decide) (by decide))
  clear hu4 hb4
  go_wp2_with fail
  refine c4.out.mono ?_
  rintro e w5 ⟨⟨u5, rfl, hu5⟩, hb5⟩
  have HB5 := Lib.hid (HB4.out.trans (hb5.mono HB4.out.size))
  have bx5 := Lib.hid (blk_below bx4.out hb5)
  have HV5 := Lib.hid (HV4.out.below hb5)
  have hu5' : OwnVal w4.heap.size u5 ⟨[3], [1, 1, 2].map ofF⟩ w5 := hu5
  clear hu5
  obtain ⟨a5, b5, rfl, ha5, hbb5⟩ := hu5'
  have HU5 := Lib.hid (OwnVal.isVal ⟨_, _, rfl, ha5, hbb5⟩)
  obtain ⟨A6, d6, rfl, -⟩ := ha5.row
  obtain ⟨A7, d7, rfl, -⟩ := hbb5.row
  clear ha5 hbb5 hb5 c4
  simp only [List.length_map, List.length_cons, List.length_nil, Nat.zero_add] at HU5 ⊢
  have HB6 := Lib.hid (below_alloc HB5.out (.cells #[.slice A6 1 d6, .slice A7 3 d7] 25))
  have by6 := Lib.hid (blk_new w5 (.cells #[.slice A6 1 d6, .slice A7 3 d7] 25))
  have bx6 := Lib.hid (blk_alloc bx5.out (.cells #[.slice A6 1 d6, .slice A7 3 d7] 25))
  have HV6 := Lib.hid (HV5.out.below (below_alloc (Below.refl _ _) (.cells #[.slice A6 1 d6, .slice A7 3 d7] 25)))
  have HU6 := Lib.hid (HU5.out.below (below_alloc (Below.refl _ _) (.cells #[.slice A6 1 d6, .slice A7 3 d7] 25)))
  go_wp2_with fail
  obtain ⟨w6, hw6⟩ : ∃ w6, w5.alloc (.cells #[.slice A6 1 d6, .slice A7 3 d7] 25) = w6 := ⟨_, rfl⟩
  have HB6 := HB6.out; have by6 := by6.out; have bx6 := bx6.out; have HV6 := HV6.out; have HU6 := HU6.out
  rw [hw6] at HB6 by6 bx6 HV6 HU6
  rw [hw6]
  have k0 : w6.cell? ⟨w2.heap.size, 0, none⟩ = some (.slice A2 1 d2) := blk_cell bx6 0
  have k1 : w6.cell? ⟨w2.heap.size, 1, none⟩ = some (.slice A3 3 d3) := blk_cell bx6 1
  have k2 : w6.cell? ⟨w5.heap.size, 0, none⟩ = some (.slice A6 1 d6) := blk_cell by6 0
  have k3 : w6.cell? ⟨w5.heap.size, 1, none⟩ = some (.slice A7 3 d7) := blk_cell by6 1
  have HB6 := Lib.hid HB6; have HV6 := Lib.hid HV6; have HU6 := Lib.hid HU6
  clear hw6 by6 bx6
  have n0 := World.new_ne w6 _ k0
  have n2 := World.new_ne w6 _ k2
  go_region_held3 (fun w' => w'.cell? ⟨w2.heap.size, 0, none⟩ = some (.slice A2 1 d2) ∧ w'.cell? ⟨w2.heap.size, 1, none⟩ = some (.slice A3 3 d3) ∧ w'.cell? ⟨w5.heap.size, 0, none⟩ = some (.slice A6 1 d6) ∧ w'.cell? ⟨w5.heap.size, 1, none⟩ = some (.slice A7 3 d7)) (go_keep)
    (first
      | (go_at_call 18
         with_reducible refine (cD.out _ _ rfl HB6.out 1 2 0 (by decide)).mono ?_
         rintro e w7 ⟨u7, rfl, hu7, hb7⟩
         have HB7 := Lib.hid (HB6.out.trans (hb7.mono HB6.out.size))
         have HV7 := Lib.hid (HV6.out.below hb7)
         have HU7 := Lib.hid (HU6.out.below hb7)
         have HW7 := Lib.hid hu7.isVal
         have q0 := pw_cell_below hb7 k0
         have q1 := pw_cell_below hb7 k1
         have q2 := pw_cell_below hb7 k2
         have q3 := pw_cell_below hb7 k3
         clear hb7 hu7)
      | (go_at_call 12
         with_reducible refine (same_yes _ _ _ _ HV7.out HW7.out).mono ?_
         rintro e w8 ⟨rfl, hb8⟩
         have HB8 := Lib.hid (HB7.out.trans (hb8.mono HB7.out.size))
         have HU8 := Lib.hid (HU7.out.below hb8)
         have p0 := pw_cell_below hb8 q0
         have p1 := pw_cell_below hb8 q1
         have p2 := pw_cell_below hb8 q2
         have p3 := pw_cell_below hb8 q3
         have m0 := World.new_ne w8 _ p0
         have m2 := World.new_ne w8 _ p2
         clear hb8 HV7)
      | (go_at_call 18
         with_reducible refine (cI.out _ _ rfl HB8.out 1 1 2 (by decide)).mono ?_
         rintro e w9 ⟨u9, rfl, hu9, hb9⟩
         have HB9 := Lib.hid (HB8.out.trans (hb9.mono HB8.out.size))
         have HU9 := Lib.hid (HU8.out.below hb9)
         have HW9 := Lib.hid hu9.isVal
         have r0 := pw_cell_below hb9 p0
         have r1 := pw_cell_below hb9 p1
         have r2 := pw_cell_below hb9 p2
         have r3 := pw_cell_below hb9 p3
         clear hb9 hu9)
      | (go_at_call 12
         with_reducible refine (same_yes _ _ _ _ HU9.out HW9.out).mono ?_
         rintro e w10 ⟨rfl, hb10⟩
         have HB10 := Lib.hid (HB9.out.trans (hb10.mono HB9.out.size))
         have s0 := pw_cell_below hb10 r0
         have s1 := pw_cell_below hb10 r1
         have s2 := pw_cell_below hb10 r2
         have s3 := pw_cell_below hb10 r3
         clear hb10))
  all_goals
    go_wp2
    go_ret
    exact ⟨rfl, HB10.out⟩
end Go.Proofs.YthjcnifdlfjieaaGreatDoor.Ie
