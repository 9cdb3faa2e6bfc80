import Derived.Test.YthjcnifdlfjieaaGreatDoorIe
import Derived.Test.YthjcnifdlfjieaaGreatDoorIg
set_option linter.unusedVariables false
set_option linter.unusedSimpArgs false
namespace Go.Proofs.YthjcnifdlfjieaaGreatDoor.Ih
open Go.RowKit Go.Shelf Go.Proofs.YthjcnifdlfjieaaGreatDoorW.PrintWords Go.Proofs.YthjcnifdlfjieaaGreatDoor.Ha Go.Proofs.YthjcnifdlfjieaaGreatDoor.Hb Go.Proofs.YthjcnifdlfjieaaGreatDoor.Hc Go.Proofs.YthjcnifdlfjieaaGreatDoor.Hp Go.Proofs.YthjcnifdlfjieaaGreatDoor.Hd Go.Proofs.YthjcnifdlfjieaaGreatDoor.He Go.Proofs.YthjcnifdlfjieaaGreatDoor.Hf Go.Proofs.YthjcnifdlfjieaaGreatDoor.Hg Go.Proofs.YthjcnifdlfjieaaGreatDoor.Hh Go.Proofs.YthjcnifdlfjieaaGreatDoor.Hi Go.Proofs.YthjcnifdlfjieaaGreatDoor.Hm Go.Proofs.YthjcnifdlfjieaaGreatDoor.Hj Go.Proofs.YthjcnifdlfjieaaGreatDoor.Hk Go.Proofs.YthjcnifdlfjieaaGreatDoor.Hl Go.Proofs.YthjcnifdlfjieaaGreatDoor.Hn Go.Proofs.YthjcnifdlfjieaaGreatDoor.Ho Go.Proofs.YthjcnifdlfjieaaGreatDoor.Hq Go.Proofs.YthjcnifdlfjieaaGreatDoor.Hr Go.Proofs.YthjcnifdlfjieaaGreatDoor.Ie Go.Proofs.YthjcnifdlfjieaaGreatDoor.If Go.Proofs.YthjcnifdlfjieaaGreatDoor.Ig

set_option maxRecDepth 100000 in
set_option maxHeartbeats 1000000 in
theorem out1 (u t : Value) (x y : V) (w : World) (hG : G w) (hu : IsVal w u x) (ht : IsVal w t y) (h1 : fewF x = false) :
    Calls Tryz.prog 3 #[u, t] w fun e w' => e = .returned (.bool true) ∧ Below w.heap.size w w' := by
  obtain ⟨a, b, rfl, ⟨A, c, rfl, hc, hr⟩, ⟨B, d, rfl, hd, hs⟩⟩ := id hu
  obtain ⟨a, b, rfl, ⟨A2, c2, rfl, hc2, hr2⟩, ⟨B2, d2, rfl, hd2, hs2⟩⟩ := id ht
  have hW := below_alloc (below_alloc (Below.refl w.heap.size w) (.cells #[.slice A x.sh.length c, .slice B x.el.length d] 25)) (.cells #[.slice A2 y.sh.length c2, .slice B2 y.el.length d2] 25)
  have b0 := blk_alloc (blk_new w (.cells #[.slice A x.sh.length c, .slice B x.el.length d] 25)) (.cells #[.slice A2 y.sh.length c2, .slice B2 y.el.length d2] 25)
  have b1 := blk_new (w.alloc (.cells #[.slice A x.sh.length c, .slice B x.el.length d] 25)) (.cells #[.slice A2 y.sh.length c2, .slice B2 y.el.length d2] 25)
  simp only [World.size_alloc] at b1
  obtain ⟨w2, hw2⟩ : ∃ w2, (w.alloc (.cells #[.slice A x.sh.length c, .slice B x.el.length d] 25)).alloc (.cells #[.slice A2 y.sh.length c2, .slice B2 y.el.length d2] 25) = w2 := ⟨_, rfl⟩
  rw [hw2] at hW b0 b1
  have cS := Lib.hid (shown w2 (hG.below hW))
  have HG2 := Lib.hid (hG.below hW)
  have HU := Lib.hid (hu.below hW)
  have HT := Lib.hid (ht.below hW)
  have b0 := Lib.hid b0; have b1 := Lib.hid b1
  have HW := Lib.hid hW
  have HW2 := Lib.hid hw2
  have q1 := Lib.hid (fun (W : World) (h : Below w2.heap.size w2 W) => h1 ▸ Few _ x W (HU.out.below h))
  clear h1
  clear hG hu ht hr hs hr2 hs2 hW hw2
  go_enter Tryz.func3, Tryz.ntmps3
  go_wp2_with fail
  rw [HW2.out]
  refine cS.out.mono ?_
  rintro e w3 ⟨rfl, hb⟩
  have HB := Lib.hid hb
  clear hb
  have k0 : w3.cell? ⟨w.heap.size, 0, none⟩ = some (.slice A x.sh.length c) := blk_cell (blk_below b0.out HB.out) 0
  have k1 : w3.cell? ⟨w.heap.size, 1, none⟩ = some (.slice B x.el.length d) := blk_cell (blk_below b0.out HB.out) 1
  have k2 : w3.cell? ⟨w.heap.size + 1, 0, none⟩ = some (.slice A2 y.sh.length c2) := blk_cell (blk_below b1.out HB.out) 0
  have k3 : w3.cell? ⟨w.heap.size + 1, 1, none⟩ = some (.slice B2 y.el.length d2) := blk_cell (blk_below b1.out HB.out) 1
  go_wp2_with fail
  refine (q1.out _ HB.out).mono ?_
  rintro e w4 ⟨rfl, hb⟩
  have HB1 := Lib.hid (HB.out.trans (hb.mono HB.out.size))
  clear hb HB k0 k1 k2 k3
  obtain ⟨w3, rfl⟩ : ∃ w3, w3 = w4 := ⟨_, rfl⟩
  have HB := HB1
  clear HB1
  have k0 : w3.cell? ⟨w.heap.size, 0, none⟩ = some (.slice A x.sh.length c) := blk_cell (blk_below b0.out HB.out) 0
  have k1 : w3.cell? ⟨w.heap.size, 1, none⟩ = some (.slice B x.el.length d) := blk_cell (blk_below b0.out HB.out) 1
  have k2 : w3.cell? ⟨w.heap.size + 1, 0, none⟩ = some (.slice A2 y.sh.length c2) := blk_cell (blk_below b1.out HB.out) 0
  have k3 : w3.cell? ⟨w.heap.size + 1, 1, none⟩ = some (.slice B2 y.el.length d2) := blk_cell (blk_below b1.out HB.out) 1
  go_wp2
  go_ret
  exact ⟨rfl, HW.out.trans (HB.out.mono HW.out.size)⟩

set_option maxRecDepth 100000 in
set_option maxHeartbeats 1000000 in
theorem out2 (u t : Value) (x y : V) (w : World) (hG : G w) (hu : IsVal w u x) (ht : IsVal w t y) (h1 : fewF x = true) (h2 : fewF y = false) :
    Calls Tryz.prog 3 #[u, t] w fun e w' => e = .returned (.bool true) ∧ Below w.heap.size w w' := by
  obtain ⟨a, b, rfl, ⟨A, c, rfl, hc, hr⟩, ⟨B, d, rfl, hd, hs⟩⟩ := id hu
  obtain ⟨a, b, rfl, ⟨A2, c2, rfl, hc2, hr2⟩, ⟨B2, d2, rfl, hd2, hs2⟩⟩ := id ht
  have hW := below_alloc (below_alloc (Below.refl w.heap.size w) (.cells #[.slice A x.sh.length c, .slice B x.el.length d] 25)) (.cells #[.slice A2 y.sh.length c2, .slice B2 y.el.length d2] 25)
  have b0 := blk_alloc (blk_new w (.cells #[.slice A x.sh.length c, .slice B x.el.length d] 25)) (.cells #[.slice A2 y.sh.length c2, .slice B2 y.el.length d2] 25)
  have b1 := blk_new (w.alloc (.cells #[.slice A x.sh.length c, .slice B x.el.length d] 25)) (.cells #[.slice A2 y.sh.length c2, .slice B2 y.el.length d2] 25)
  simp only [World.size_alloc] at b1
  obtain ⟨w2, hw2⟩ : ∃ w2, (w.alloc (.cells #[.slice A x.sh.length c, .slice B x.el.length d] 25)).alloc (.cells #[.slice A2 y.sh.length c2, .slice B2 y.el.length d2] 25) = w2 := ⟨_, rfl⟩
  rw [hw2] at hW b0 b1
  have cS := Lib.hid (shown w2 (hG.below hW))
  have HG2 := Lib.hid (hG.below hW)
  have HU := Lib.hid (hu.below hW)
  have HT := Lib.hid (ht.below hW)
  have b0 := Lib.hid b0; have b1 := Lib.hid b1
  have HW := Lib.hid hW
  have HW2 := Lib.hid hw2
  have q1 := Lib.hid (fun (W : World) (h : Below w2.heap.size w2 W) => h1 ▸ Few _ x W (HU.out.below h))
  have q2 := Lib.hid (fun (W : World) (h : Below w2.heap.size w2 W) => h2 ▸ Few _ y W (HT.out.below h))
  clear h1 h2
  clear hG hu ht hr hs hr2 hs2 hW hw2
  go_enter Tryz.func3, Tryz.ntmps3
  go_wp2_with fail
  rw [HW2.out]
  refine cS.out.mono ?_
  rintro e w3 ⟨rfl, hb⟩
  have HB := Lib.hid hb
  clear hb
  have k0 : w3.cell? ⟨w.heap.size, 0, none⟩ = some (.slice A x.sh.length c) := blk_cell (blk_below b0.out HB.out) 0
  have k1 : w3.cell? ⟨w.heap.size, 1, none⟩ = some (.slice B x.el.length d) := blk_cell (blk_below b0.out HB.out) 1
  have k2 : w3.cell? ⟨w.heap.size + 1, 0, none⟩ = some (.slice A2 y.sh.length c2) := blk_cell (blk_below b1.out HB.out) 0
  have k3 : w3.cell? ⟨w.heap.size + 1, 1, none⟩ = some (.slice B2 y.el.length d2) := blk_cell (blk_below b1.out HB.out) 1
  go_wp2_with fail
  refine (q1.out _ HB.out).mono ?_
  rintro e w4 ⟨rfl, hb⟩
  have HB1 := Lib.hid (HB.out.trans (hb.mono HB.out.size))
  clear hb HB k0 k1 k2 k3
  obtain ⟨w3, rfl⟩ : ∃ w3, w3 = w4 := ⟨_, rfl⟩
  have HB := HB1
  clear HB1
  have k0 : w3.cell? ⟨w.heap.size, 0, none⟩ = some (.slice A x.sh.length c) := blk_cell (blk_below b0.out HB.out) 0
  have k1 : w3.cell? ⟨w.heap.size, 1, none⟩ = some (.slice B x.el.length d) := blk_cell (blk_below b0.out HB.out) 1
  have k2 : w3.cell? ⟨w.heap.size + 1, 0, none⟩ = some (.slice A2 y.sh.length c2) := blk_cell (blk_below b1.out HB.out) 0
  have k3 : w3.cell? ⟨w.heap.size + 1, 1, none⟩ = some (.slice B2 y.el.length d2) := blk_cell (blk_below b1.out HB.out) 1
  go_wp2_with fail
  refine (q2.out _ HB.out).mono ?_
  rintro e w4 ⟨rfl, hb⟩
  have HB1 := Lib.hid (HB.out.trans (hb.mono HB.out.size))
  clear hb HB k0 k1 k2 k3
  obtain ⟨w3, rfl⟩ : ∃ w3, w3 = w4 := ⟨_, rfl⟩
  have HB := HB1
  clear HB1
  have k0 : w3.cell? ⟨w.heap.size, 0, none⟩ = some (.slice A x.sh.length c) := blk_cell (blk_below b0.out HB.out) 0
  have k1 : w3.cell? ⟨w.heap.size, 1, none⟩ = some (.slice B x.el.length d) := blk_cell (blk_below b0.out HB.out) 1
  have k2 : w3.cell? ⟨w.heap.size + 1, 0, none⟩ = some (.slice A2 y.sh.length c2) := blk_cell (blk_below b1.out HB.out) 0
  have k3 : w3.cell? ⟨w.heap.size + 1, 1, none⟩ = some (.slice B2 y.el.length d2) := blk_cell (blk_below b1.out HB.out) 1
  go_wp2
  go_ret
  exact ⟨rfl, HW.out.trans (HB.out.mono HW.out.size)⟩

set_option maxRecDepth 100000 in
set_option maxHeartbeats 1000000 in
theorem out3 (u t : Value) (x y : V) (w : World) (hG : G w) (hu : IsVal w u x) (ht : IsVal w t y) (h1 : fewF x = true) (h2 : fewF y = true) (h3 : mayV x = false) :
    Calls Tryz.prog 3 #[u, t] w fun e w' => e = .returned (.bool true) ∧ Below w.heap.size w w' := by
  obtain ⟨a, b, rfl, ⟨A, c, rfl, hc, hr⟩, ⟨B, d, rfl, hd, hs⟩⟩ := id hu
  obtain ⟨a, b, rfl, ⟨A2, c2, rfl, hc2, hr2⟩, ⟨B2, d2, rfl, hd2, hs2⟩⟩ := id ht
  have hW := below_alloc (below_alloc (Below.refl w.heap.size w) (.cells #[.slice A x.sh.length c, .slice B x.el.length d] 25)) (.cells #[.slice A2 y.sh.length c2, .slice B2 y.el.length d2] 25)
  have b0 := blk_alloc (blk_new w (.cells #[.slice A x.sh.length c, .slice B x.el.length d] 25)) (.cells #[.slice A2 y.sh.length c2, .slice B2 y.el.length d2] 25)
  have b1 := blk_new (w.alloc (.cells #[.slice A x.sh.length c, .slice B x.el.length d] 25)) (.cells #[.slice A2 y.sh.length c2, .slice B2 y.el.length d2] 25)
  simp only [World.size_alloc] at b1
  obtain ⟨w2, hw2⟩ : ∃ w2, (w.alloc (.cells #[.slice A x.sh.length c, .slice B x.el.length d] 25)).alloc (.cells #[.slice A2 y.sh.length c2, .slice B2 y.el.length d2] 25) = w2 := ⟨_, rfl⟩
  rw [hw2] at hW b0 b1
  have cS := Lib.hid (shown w2 (hG.below hW))
  have HG2 := Lib.hid (hG.below hW)
  have HU := Lib.hid (hu.below hW)
  have HT := Lib.hid (ht.below hW)
  have b0 := Lib.hid b0; have b1 := Lib.hid b1
  have HW := Lib.hid hW
  have HW2 := Lib.hid hw2
  have q1 := Lib.hid (fun (W : World) (h : Below w2.heap.size w2 W) => h1 ▸ Few _ x W (HU.out.below h))
  have q2 := Lib.hid (fun (W : World) (h : Below w2.heap.size w2 W) => h2 ▸ Few _ y W (HT.out.below h))
  have q3 := Lib.hid (fun (W : World) (h : Below w2.heap.size w2 W) => h3 ▸ MayV _ x W (HU.out.below h))
  clear h1 h2 h3
  clear hG hu ht hr hs hr2 hs2 hW hw2
  go_enter Tryz.func3, Tryz.ntmps3
  go_wp2_with fail
  rw [HW2.out]
  refine cS.out.mono ?_
  rintro e w3 ⟨rfl, hb⟩
  have HB := Lib.hid hb
  clear hb
  have k0 : w3.cell? ⟨w.heap.size, 0, none⟩ = some (.slice A x.sh.length c) := blk_cell (blk_below b0.out HB.out) 0
  have k1 : w3.cell? ⟨w.heap.size, 1, none⟩ = some (.slice B x.el.length d) := blk_cell (blk_below b0.out HB.out) 1
  have k2 : w3.cell? ⟨w.heap.size + 1, 0, none⟩ = some (.slice A2 y.sh.length c2) := blk_cell (blk_below b1.out HB.out) 0
  have k3 : w3.cell? ⟨w.heap.size + 1, 1, none⟩ = some (.slice B2 y.el.length d2) := blk_cell (blk_below b1.out HB.out) 1
  go_wp2_with fail
  refine (q1.out _ HB.out).mono ?_
  rintro e w4 ⟨rfl, hb⟩
  have HB1 := Lib.hid (HB.out.trans (hb.mono HB.out.size))
  clear hb HB k0 k1 k2 k3
  obtain ⟨w3, rfl⟩ : ∃ w3, w3 = w4 := ⟨_, rfl⟩
  have HB := HB1
  clear HB1
  have k0 : w3.cell? ⟨w.heap.size, 0, none⟩ = some (.slice A x.sh.length c) := blk_cell (blk_below b0.out HB.out) 0
  have k1 : w3.cell? ⟨w.heap.size, 1, none⟩ = some (.slice B x.el.length d) := blk_cell (blk_below b0.out HB.out) 1
  have k2 : w3.cell? ⟨w.heap.size + 1, 0, none⟩ = some (.slice A2 y.sh.length c2) := blk_cell (blk_below b1.out HB.out) 0
  have k3 : w3.cell? ⟨w.heap.size + 1, 1, none⟩ = some (.slice B2 y.el.length d2) := blk_cell (blk_below b1.out HB.out) 1
  go_wp2_with fail
  refine (q2.out _ HB.out).mono ?_
  rintro e w4 ⟨rfl, hb⟩
  have HB1 := Lib.hid (HB.out.trans (hb.mono HB.out.size))
  clear hb HB k0 k1 k2 k3
  obtain ⟨w3, rfl⟩ : ∃ w3, w3 = w4 := ⟨_, rfl⟩
  have HB := HB1
  clear HB1
  have k0 : w3.cell? ⟨w.heap.size, 0, none⟩ = some (.slice A x.sh.length c) := blk_cell (blk_below b0.out HB.out) 0
  have k1 : w3.cell? ⟨w.heap.size, 1, none⟩ = some (.slice B x.el.length d) := blk_cell (blk_below b0.out HB.out) 1
  have k2 : w3.cell? ⟨w.heap.size + 1, 0, none⟩ = some (.slice A2 y.sh.length c2) := blk_cell (blk_below b1.out HB.out) 0
  have k3 : w3.cell? ⟨w.heap.size + 1, 1, none⟩ = some (.slice B2 y.el.length d2) := blk_cell (blk_below b1.out HB.out) 1
  go_wp2_with fail
  refine (q3.out _ HB.out).mono ?_
  rintro e w4 ⟨rfl, hb⟩
  have HB1 := Lib.hid (HB.out.trans (hb.mono HB.out.size))
  clear hb HB k0 k1 k2 k3
  obtain ⟨w3, rfl⟩ : ∃ w3, w3 = w4 := ⟨_, rfl⟩
  have HB := HB1
  clear HB1
  have k0 : w3.cell? ⟨w.heap.size, 0, none⟩ = some (.slice A x.sh.length c) := blk_cell (blk_below b0.out HB.out) 0
  have k1 : w3.cell? ⟨w.heap.size, 1, none⟩ = some (.slice B x.el.length d) := blk_cell (blk_below b0.out HB.out) 1
  have k2 : w3.cell? ⟨w.heap.size + 1, 0, none⟩ = some (.slice A2 y.sh.length c2) := blk_cell (blk_below b1.out HB.out) 0
  have k3 : w3.cell? ⟨w.heap.size + 1, 1, none⟩ = some (.slice B2 y.el.length d2) := blk_cell (blk_below b1.out HB.out) 1
  go_wp2
  go_ret
  exact ⟨rfl, HW.out.trans (HB.out.mono HW.out.size)⟩

set_option maxRecDepth 100000 in
set_option maxHeartbeats 1000000 in
theorem out4 (u t : Value) (x y : V) (w : World) (hG : G w) (hu : IsVal w u x) (ht : IsVal w t y) (h1 : fewF x = true) (h2 : fewF y = true) (h3 : mayV x = true) (h4 : mayV y = false) :
    Calls Tryz.prog 3 #[u, t] w fun e w' => e = .returned (.bool true) ∧ Below w.heap.size w w' := by
  obtain ⟨a, b, rfl, ⟨A, c, rfl, hc, hr⟩, ⟨B, d, rfl, hd, hs⟩⟩ := id hu
  obtain ⟨a, b, rfl, ⟨A2, c2, rfl, hc2, hr2⟩, ⟨B2, d2, rfl, hd2, hs2⟩⟩ := id ht
  have hW := below_alloc (below_alloc (Below.refl w.heap.size w) (.cells #[.slice A x.sh.length c, .slice B x.el.length d] 25)) (.cells #[.slice A2 y.sh.length c2, .slice B2 y.el.length d2] 25)
  have b0 := blk_alloc (blk_new w (.cells #[.slice A x.sh.length c, .slice B x.el.length d] 25)) (.cells #[.slice A2 y.sh.length c2, .slice B2 y.el.length d2] 25)
  have b1 := blk_new (w.alloc (.cells #[.slice A x.sh.length c, .slice B x.el.length d] 25)) (.cells #[.slice A2 y.sh.length c2, .slice B2 y.el.length d2] 25)
  simp only [World.size_alloc] at b1
  obtain ⟨w2, hw2⟩ : ∃ w2, (w.alloc (.cells #[.slice A x.sh.length c, .slice B x.el.length d] 25)).alloc (.cells #[.slice A2 y.sh.length c2, .slice B2 y.el.length d2] 25) = w2 := ⟨_, rfl⟩
  rw [hw2] at hW b0 b1
  have cS := Lib.hid (shown w2 (hG.below hW))
  have HG2 := Lib.hid (hG.below hW)
  have HU := Lib.hid (hu.below hW)
  have HT := Lib.hid (ht.below hW)
  have b0 := Lib.hid b0; have b1 := Lib.hid b1
  have HW := Lib.hid hW
  have HW2 := Lib.hid hw2
  have q1 := Lib.hid (fun (W : World) (h : Below w2.heap.size w2 W) => h1 ▸ Few _ x W (HU.out.below h))
  have q2 := Lib.hid (fun (W : World) (h : Below w2.heap.size w2 W) => h2 ▸ Few _ y W (HT.out.below h))
  have q3 := Lib.hid (fun (W : World) (h : Below w2.heap.size w2 W) => h3 ▸ MayV _ x W (HU.out.below h))
  have q4 := Lib.hid (fun (W : World) (h : Below w2.heap.size w2 W) => h4 ▸ MayV _ y W (HT.out.below h))
  clear h1 h2 h3 h4
  clear hG hu ht hr hs hr2 hs2 hW hw2
  go_enter Tryz.func3, Tryz.ntmps3
  go_wp2_with fail
  rw [HW2.out]
  refine cS.out.mono ?_
  rintro e w3 ⟨rfl, hb⟩
  have HB := Lib.hid hb
  clear hb
  have k0 : w3.cell? ⟨w.heap.size, 0, none⟩ = some (.slice A x.sh.length c) := blk_cell (blk_below b0.out HB.out) 0
  have k1 : w3.cell? ⟨w.heap.size, 1, none⟩ = some (.slice B x.el.length d) := blk_cell (blk_below b0.out HB.out) 1
  have k2 : w3.cell? ⟨w.heap.size + 1, 0, none⟩ = some (.slice A2 y.sh.length c2) := blk_cell (blk_below b1.out HB.out) 0
  have k3 : w3.cell? ⟨w.heap.size + 1, 1, none⟩ = some (.slice B2 y.el.length d2) := blk_cell (blk_below b1.out HB.out) 1
  go_wp2_with fail
  refine (q1.out _ HB.out).mono ?_
  rintro e w4 ⟨rfl, hb⟩
  have HB1 := Lib.hid (HB.out.trans (hb.mono HB.out.size))
  clear hb HB k0 k1 k2 k3
  obtain ⟨w3, rfl⟩ : ∃ w3, w3 = w4 := ⟨_, rfl⟩
  have HB := HB1
  clear HB1
  have k0 : w3.cell? ⟨w.heap.size, 0, none⟩ = some (.slice A x.sh.length c) := blk_cell (blk_below b0.out HB.out) 0
  have k1 : w3.cell? ⟨w.heap.size, 1, none⟩ = some (.slice B x.el.length d) := blk_cell (blk_below b0.out HB.out) 1
  have k2 : w3.cell? ⟨w.heap.size + 1, 0, none⟩ = some (.slice A2 y.sh.length c2) := blk_cell (blk_below b1.out HB.out) 0
  have k3 : w3.cell? ⟨w.heap.size + 1, 1, none⟩ = some (.slice B2 y.el.length d2) := blk_cell (blk_below b1.out HB.out) 1
  go_wp2_with fail
  refine (q2.out _ HB.out).mono ?_
  rintro e w4 ⟨rfl, hb⟩
  have HB1 := Lib.hid (HB.out.trans (hb.mono HB.out.size))
  clear hb HB k0 k1 k2 k3
  obtain ⟨w3, rfl⟩ : ∃ w3, w3 = w4 := ⟨_, rfl⟩
  have HB := HB1
  clear HB1
  have k0 : w3.cell? ⟨w.heap.size, 0, none⟩ = some (.slice A x.sh.length c) := blk_cell (blk_below b0.out HB.out) 0
  have k1 : w3.cell? ⟨w.heap.size, 1, none⟩ = some (.slice B x.el.length d) := blk_cell (blk_below b0.out HB.out) 1
  have k2 : w3.cell? ⟨w.heap.size + 1, 0, none⟩ = some (.slice A2 y.sh.length c2) := blk_cell (blk_below b1.out HB.out) 0
  have k3 : w3.cell? ⟨w.heap.size + 1, 1, none⟩ = some (.slice B2 y.el.length d2) := blk_cell (blk_below b1.out HB.out) 1
  go_wp2_with fail
  refine (q3.out _ HB.out).mono ?_
  rintro e w4 ⟨rfl, hb⟩
  have HB1 := Lib.hid (HB.out.trans (hb.mono HB.out.size))
  clear hb HB k0 k1 k2 k3
  obtain ⟨w3, rfl⟩ : ∃ w3, w3 = w4 := ⟨_, rfl⟩
  have HB := HB1
  clear HB1
  have k0 : w3.cell? ⟨w.heap.size, 0, none⟩ = some (.slice A x.sh.length c) := blk_cell (blk_below b0.out HB.out) 0
  have k1 : w3.cell? ⟨w.heap.size, 1, none⟩ = some (.slice B x.el.length d) := blk_cell (blk_below b0.out HB.out) 1
  have k2 : w3.cell? ⟨w.heap.size + 1, 0, none⟩ = some (.slice A2 y.sh.length c2) := blk_cell (blk_below b1.out HB.out) 0
  have k3 : w3.cell? ⟨w.heap.size + 1, 1, none⟩ = some (.slice B2 y.el.length d2) := blk_cell (blk_below b1.out HB.out) 1
  go_wp2_with fail
  refine (q4.out _ HB.out).mono ?_
  rintro e w4 ⟨rfl, hb⟩
  have HB1 := Lib.hid (HB.out.trans (hb.mono HB.out.size))
  clear hb HB k0 k1 k2 k3
  obtain ⟨w3, rfl⟩ : ∃ w3, w3 = w4 := ⟨_, rfl⟩
  have HB := HB1
  clear HB1
  have k0 : w3.cell? ⟨w.heap.size, 0, none⟩ = some (.slice A x.sh.length c) := blk_cell (blk_below b0.out HB.out) 0
  have k1 : w3.cell? ⟨w.heap.size, 1, none⟩ = some (.slice B x.el.length d) := blk_cell (blk_below b0.out HB.out) 1
  have k2 : w3.cell? ⟨w.heap.size + 1, 0, none⟩ = some (.slice A2 y.sh.length c2) := blk_cell (blk_below b1.out HB.out) 0
  have k3 : w3.cell? ⟨w.heap.size + 1, 1, none⟩ = some (.slice B2 y.el.length d2) := blk_cell (blk_below b1.out HB.out) 1
  go_wp2
  go_ret
  exact ⟨rfl, HW.out.trans (HB.out.mono HW.out.size)⟩

set_option maxRecDepth 100000 in
set_option maxHeartbeats 1000000 in
theorem out5 (u t : Value) (x y : V) (w : World) (hG : G w) (hu : IsVal w u x) (ht : IsVal w t y) (h1 : fewF x = true) (h2 : fewF y = true) (h3 : mayV x = true) (h4 : mayV y = true) (h5 : x.sh.length ≠ 1) :
    Calls Tryz.prog 3 #[u, t] w fun e w' => e = .returned (.bool true) ∧ Below w.heap.size w w' := by
  obtain ⟨a, b, rfl, ⟨A, c, rfl, hc, hr⟩, ⟨B, d, rfl, hd, hs⟩⟩ := id hu
  obtain ⟨a, b, rfl, ⟨A2, c2, rfl, hc2, hr2⟩, ⟨B2, d2, rfl, hd2, hs2⟩⟩ := id ht
  have hW := below_alloc (below_alloc (Below.refl w.heap.size w) (.cells #[.slice A x.sh.length c, .slice B x.el.length d] 25)) (.cells #[.slice A2 y.sh.length c2, .slice B2 y.el.length d2] 25)
  have b0 := blk_alloc (blk_new w (.cells #[.slice A x.sh.length c, .slice B x.el.length d] 25)) (.cells #[.slice A2 y.sh.length c2, .slice B2 y.el.length d2] 25)
  have b1 := blk_new (w.alloc (.cells #[.slice A x.sh.length c, .slice B x.el.length d] 25)) (.cells #[.slice A2 y.sh.length c2, .slice B2 y.el.length d2] 25)
  simp only [World.size_alloc] at b1
  obtain ⟨w2, hw2⟩ : ∃ w2, (w.alloc (.cells #[.slice A x.sh.length c, .slice B x.el.length d] 25)).alloc (.cells #[.slice A2 y.sh.length c2, .slice B2 y.el.length d2] 25) = w2 := ⟨_, rfl⟩
  rw [hw2] at hW b0 b1
  have cS := Lib.hid (shown w2 (hG.below hW))
  have HG2 := Lib.hid (hG.below hW)
  have HU := Lib.hid (hu.below hW)
  have HT := Lib.hid (ht.below hW)
  have b0 := Lib.hid b0; have b1 := Lib.hid b1
  have HW := Lib.hid hW
  have HW2 := Lib.hid hw2
  have q1 := Lib.hid (fun (W : World) (h : Below w2.heap.size w2 W) => h1 ▸ Few _ x W (HU.out.below h))
  have q2 := Lib.hid (fun (W : World) (h : Below w2.heap.size w2 W) => h2 ▸ Few _ y W (HT.out.below h))
  have q3 := Lib.hid (fun (W : World) (h : Below w2.heap.size w2 W) => h3 ▸ MayV _ x W (HU.out.below h))
  have q4 := Lib.hid (fun (W : World) (h : Below w2.heap.size w2 W) => h4 ▸ MayV _ y W (HT.out.below h))
  clear h1 h2 h3 h4
  have hd1 : (x.sh.length == 1) = false := by simpa using h5
  have hd2 : ((x.sh.length : Int) == 1) = false := by simp; omega
  have hd3 : ((x.sh.length : Int) != 1) = true := by simp; omega
  clear h5
  clear hG hu ht hr hs hr2 hs2 hW hw2
  go_enter Tryz.func3, Tryz.ntmps3
  go_wp2_with fail
  rw [HW2.out]
  refine cS.out.mono ?_
  rintro e w3 ⟨rfl, hb⟩
  have HB := Lib.hid hb
  clear hb
  have k0 : w3.cell? ⟨w.heap.size, 0, none⟩ = some (.slice A x.sh.length c) := blk_cell (blk_below b0.out HB.out) 0
  have k1 : w3.cell? ⟨w.heap.size, 1, none⟩ = some (.slice B x.el.length d) := blk_cell (blk_below b0.out HB.out) 1
  have k2 : w3.cell? ⟨w.heap.size + 1, 0, none⟩ = some (.slice A2 y.sh.length c2) := blk_cell (blk_below b1.out HB.out) 0
  have k3 : w3.cell? ⟨w.heap.size + 1, 1, none⟩ = some (.slice B2 y.el.length d2) := blk_cell (blk_below b1.out HB.out) 1
  go_wp2_with fail
  refine (q1.out _ HB.out).mono ?_
  rintro e w4 ⟨rfl, hb⟩
  have HB1 := Lib.hid (HB.out.trans (hb.mono HB.out.size))
  clear hb HB k0 k1 k2 k3
  obtain ⟨w3, rfl⟩ : ∃ w3, w3 = w4 := ⟨_, rfl⟩
  have HB := HB1
  clear HB1
  have k0 : w3.cell? ⟨w.heap.size, 0, none⟩ = some (.slice A x.sh.length c) := blk_cell (blk_below b0.out HB.out) 0
  have k1 : w3.cell? ⟨w.heap.size, 1, none⟩ = some (.slice B x.el.length d) := blk_cell (blk_below b0.out HB.out) 1
  have k2 : w3.cell? ⟨w.heap.size + 1, 0, none⟩ = some (.slice A2 y.sh.length c2) := blk_cell (blk_below b1.out HB.out) 0
  have k3 : w3.cell? ⟨w.heap.size + 1, 1, none⟩ = some (.slice B2 y.el.length d2) := blk_cell (blk_below b1.out HB.out) 1
  go_wp2_with fail
  refine (q2.out _ HB.out).mono ?_
  rintro e w4 ⟨rfl, hb⟩
  have HB1 := Lib.hid (HB.out.trans (hb.mono HB.out.size))
  clear hb HB k0 k1 k2 k3
  obtain ⟨w3, rfl⟩ : ∃ w3, w3 = w4 := ⟨_, rfl⟩
  have HB := HB1
  clear HB1
  have k0 : w3.cell? ⟨w.heap.size, 0, none⟩ = some (.slice A x.sh.length c) := blk_cell (blk_below b0.out HB.out) 0
  have k1 : w3.cell? ⟨w.heap.size, 1, none⟩ = some (.slice B x.el.length d) := blk_cell (blk_below b0.out HB.out) 1
  have k2 : w3.cell? ⟨w.heap.size + 1, 0, none⟩ = some (.slice A2 y.sh.length c2) := blk_cell (blk_below b1.out HB.out) 0
  have k3 : w3.cell? ⟨w.heap.size + 1, 1, none⟩ = some (.slice B2 y.el.length d2) := blk_cell (blk_below b1.out HB.out) 1
  go_wp2_with fail
  refine (q3.out _ HB.out).mono ?_
  rintro e w4 ⟨rfl, hb⟩
  have HB1 := Lib.hid (HB.out.trans (hb.mono HB.out.size))
  clear hb HB k0 k1 k2 k3
  obtain ⟨w3, rfl⟩ : ∃ w3, w3 = w4 := ⟨_, rfl⟩
  have HB := HB1
  clear HB1
  have k0 : w3.cell? ⟨w.heap.size, 0, none⟩ = some (.slice A x.sh.length c) := blk_cell (blk_below b0.out HB.out) 0
  have k1 : w3.cell? ⟨w.heap.size, 1, none⟩ = some (.slice B x.el.length d) := blk_cell (blk_below b0.out HB.out) 1
  have k2 : w3.cell? ⟨w.heap.size + 1, 0, none⟩ = some (.slice A2 y.sh.length c2) := blk_cell (blk_below b1.out HB.out) 0
  have k3 : w3.cell? ⟨w.heap.size + 1, 1, none⟩ = some (.slice B2 y.el.length d2) := blk_cell (blk_below b1.out HB.out) 1
  go_wp2_with fail
  refine (q4.out _ HB.out).mono ?_
  rintro e w4 ⟨rfl, hb⟩
  have HB1 := Lib.hid (HB.out.trans (hb.mono HB.out.size))
  clear hb HB k0 k1 k2 k3
  obtain ⟨w3, rfl⟩ : ∃ w3, w3 = w4 := ⟨_, rfl⟩
  have HB := HB1
  clear HB1
  have k0 : w3.cell? ⟨w.heap.size, 0, none⟩ = some (.slice A x.sh.length c) := blk_cell (blk_below b0.out HB.out) 0
  have k1 : w3.cell? ⟨w.heap.size, 1, none⟩ = some (.slice B x.el.length d) := blk_cell (blk_below b0.out HB.out) 1
  have k2 : w3.cell? ⟨w.heap.size + 1, 0, none⟩ = some (.slice A2 y.sh.length c2) := blk_cell (blk_below b1.out HB.out) 0
  have k3 : w3.cell? ⟨w.heap.size + 1, 1, none⟩ = some (.slice B2 y.el.length d2) := blk_cell (blk_below b1.out HB.out) 1
  go_wp2
  go_ret
  exact ⟨rfl, HW.out.trans (HB.out.mono HW.out.size)⟩

end Go.Proofs.YthjcnifdlfjieaaGreatDoor.Ih
