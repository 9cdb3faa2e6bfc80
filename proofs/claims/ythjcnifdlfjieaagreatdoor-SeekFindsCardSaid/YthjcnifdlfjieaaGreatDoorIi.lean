import Derived.Test.YthjcnifdlfjieaaGreatDoorIh
set_option linter.unusedVariables false
set_option linter.unusedSimpArgs false
namespace Go.Proofs.YthjcnifdlfjieaaGreatDoor.Ii
open Go.RowKit Go.Shelf Go.Proofs.YthjcnifdlfjieaaGreatDoorW.PrintWords Go.Proofs.YthjcnifdlfjieaaGreatDoor.Ha Go.Proofs.YthjcnifdlfjieaaGreatDoor.Hb Go.Proofs.YthjcnifdlfjieaaGreatDoor.Hc Go.Proofs.YthjcnifdlfjieaaGreatDoor.Hp Go.Proofs.YthjcnifdlfjieaaGreatDoor.Hd Go.Proofs.YthjcnifdlfjieaaGreatDoor.He Go.Proofs.YthjcnifdlfjieaaGreatDoor.Hf Go.Proofs.YthjcnifdlfjieaaGreatDoor.Hg Go.Proofs.YthjcnifdlfjieaaGreatDoor.Hh Go.Proofs.YthjcnifdlfjieaaGreatDoor.Hi Go.Proofs.YthjcnifdlfjieaaGreatDoor.Hm Go.Proofs.YthjcnifdlfjieaaGreatDoor.Hj Go.Proofs.YthjcnifdlfjieaaGreatDoor.Hk Go.Proofs.YthjcnifdlfjieaaGreatDoor.Hl Go.Proofs.YthjcnifdlfjieaaGreatDoor.Hn Go.Proofs.YthjcnifdlfjieaaGreatDoor.Ho Go.Proofs.YthjcnifdlfjieaaGreatDoor.Hq Go.Proofs.YthjcnifdlfjieaaGreatDoor.Hr Go.Proofs.YthjcnifdlfjieaaGreatDoor.Ie Go.Proofs.YthjcnifdlfjieaaGreatDoor.If Go.Proofs.YthjcnifdlfjieaaGreatDoor.Ig Go.Proofs.YthjcnifdlfjieaaGreatDoor.Ih

theorem few_parts {x : V} (h : fewF x = true) : x.el.length ≤ 300 ∧ x.sh.length ≤ 20 ∧ ∀ s ∈ x.el, s.size ≤ maxLen := by
  unfold fewF at h
  simp only [Bool.and_eq_true, decide_eq_true_eq, List.all_eq_true] at h
  refine ⟨h.1.1, h.1.2, fun s hs => ?_⟩
  have := h.2 s hs
  unfold maxLen
  omega
theorem cell_to {α : Type} {enc : α → Value} {h1 : ∀ x, (enc x).oneCell' = true} {w : World} {ad : Addr} {n : Nat} {l : List α} (h : Kd.C (Kd.scalar enc h1) w (some ad) n l) (i : Nat) (hi : i < l.length) {v : α} (hv : l[i] = v) : w.cell? (ad.add i) = some (enc v) := by
  obtain ⟨ad', e, hc⟩ := C_cell h i hi
  injection e with e
  subst e
  rw [hc, hv]
theorem find_q {x y : V} (h1 : fewF x = true) (h2 : fewF y = true) {z : V} (hz : findF x y = (z, 0)) (u t : Value) (W : World) (hG : G W) (hu : IsVal W u x) (ht : IsVal W t y) :
    Calls Tryz.prog 8 #[u, t] W fun e w' => (∃ v, e = .returned (.tuple #[v, .int .i64 0]) ∧ OwnVal W.heap.size v z w') ∧ Below W.heap.size W w' := by
  obtain ⟨a1, a2, a3⟩ := few_parts h1
  obtain ⟨b1, b2, b3⟩ := few_parts h2
  refine (Find u t x y W hG hu ht (by omega) (by omega) (by omega) a3 b3).mono ?_
  rintro e w' ⟨h, hb⟩
  rw [hz] at h
  exact ⟨h, hb⟩
theorem all_q {x : V} {l : List Int} (hl : x.el.length ≤ 300) (h : allF x.el = some l) (u : Value) (W : World) (hG : G W) (hu : IsVal W u x) :
    Calls Tryz.prog 9 #[u] W fun e w' => (∃ v, e = .returned (.tuple #[v, .int .i64 0]) ∧ Ow (Kd.int .i64) 3 W.heap.size v l w') ∧ Below W.heap.size W w' := by
  refine (All u x W hG hu (by omega)).mono ?_
  rintro e w' ⟨⟨v, hv⟩, hb⟩
  rw [h] at hv
  exact ⟨⟨v, hv.1, hv.2⟩, hb⟩
theorem uniq_q {x : V} (h1 : fewF x = true) (h : mayV x = true) (h3 : x.sh.length = 1) (u : Value) (W : World) (hu : IsVal W u x) :
    Calls Tryz.prog 10 #[u] W fun e w' => (∃ v, e = .returned (.tuple #[v, .int .i64 0]) ∧ OwnVal W.heap.size v (U x) w') ∧ Below W.heap.size W w' := by
  obtain ⟨a1, a2, a3⟩ := few_parts h1
  refine (Unique u x W hu (by omega) a3).mono ?_
  rintro e w' ⟨hv, hb⟩
  rw [uniq_ok h h3] at hv
  exact ⟨hv, hb⟩

theorem uniq_size {x : V} (h1 : fewF x = true) : (U x).el.length ≤ 300 ∧ ∀ s ∈ (U x).el, s.size ≤ maxLen := by
  obtain ⟨a1, a2, a3⟩ := few_parts h1
  have := uniqF_len x.el
  exact ⟨by show (uniqF x.el).length ≤ 300; omega, fun s hs => a3 s ((uniqF_mem _ _).1 hs)⟩
theorem find_U2 {x : V} (h1 : fewF x = true) (h : mayV x = true) (hl : x.el.length ≤ 300) (u t : Value) (W : World) (hG : G W) (hu : IsVal W u (U x)) (ht : IsVal W t x) :
    Calls Tryz.prog 8 #[u, t] W fun e w' => (∃ v, e = .returned (.tuple #[v, .int .i64 0]) ∧ OwnVal W.heap.size v (X x) w') ∧ Below W.heap.size W w' := by
  obtain ⟨a1, a2, a3⟩ := few_parts h1
  obtain ⟨b1, b3⟩ := uniq_size h1
  refine (Find u t (U x) x W hG hu ht (by omega) (by omega) (by omega) b3 a3).mono ?_
  rintro e w' ⟨h2, hb⟩
  rw [find_U h hl] at h2
  exact ⟨h2, hb⟩
theorem index_U2 {x : V} (h : mayV x = true) (h3 : x.sh.length = 1) (hl : x.el.length ≤ 300) (hls : x.sh.length ≤ 20) (u t : Value) (W : World) (hG : G W) (hu : IsVal W u (U x)) (ht : IsVal W t (X x)) :
    Calls Tryz.prog 11 #[u, t] W fun e w' => (∃ v q r, e = .returned (.tuple #[v, .int .i64 q]) ∧ OwnVal W.heap.size v r w' ∧ (¬ x.el.length = 0 → q = 0 ∧ r = x)) ∧ Below W.heap.size W w' := by
  have hx : (X x).el.length = x.el.length := by show (x.el.map _).length = _; rw [List.length_map]
  have hul := uniqF_len x.el
  refine (Index u t (U x) (X x) W hG hu ht (by show (uniqF x.el).length ≤ 65535; omega) (by omega) (by show 1 ≤ 65535; omega) (by show x.sh.length ≤ 65535; omega)).mono ?_
  rintro e w' ⟨⟨v, he, hv⟩, hb⟩
  rw [index_U h hl h3] at he hv
  exact ⟨⟨v, 0, x, he, hv, fun _ => ⟨rfl, rfl⟩⟩, hb⟩

set_option maxRecDepth 100000 in
set_option maxHeartbeats 1000000 in
theorem main (u t : Value) (x y : V) (w : World) (hG : G w) (hu : IsVal w u x) (ht : IsVal w t y) (h1 : fewF x = true) (h2 : fewF y = true) (h3 : mayV x = true) (h4 : mayV y = true) (h5 : x.sh.length = 1) :
    Calls Tryz.prog 3 #[u, t] w fun e w' => e = .returned (.bool true) ∧ Below w.heap.size w w' := by
  obtain ⟨a, b, rfl, ⟨A, c, rfl, hc, hr⟩, ⟨B, d, rfl, hd, hs⟩⟩ := id hu
  obtain ⟨a, b, rfl, ⟨A2, c2, rfl, hc2, hr2⟩, ⟨B2, d2, rfl, hd2, hs2⟩⟩ := id ht
  have hW := below_alloc (below_alloc (Below.refl w.heap.size w) (.cells #[.slice A x.sh.length c, .slice B x.el.length d] 25)) (.cells #[.slice A2 y.sh.length c2, .slice B2 y.el.length d2] 25)
  have b0 := blk_alloc (blk_new w (.cells #[.slice A x.sh.length c, .slice B x.el.length d] 25)) (.cells #[.slice A2 y.sh.length c2, .slice B2 y.el.length d2] 25)
  have b1 := blk_new (w.alloc (.cells #[.slice A x.sh.length c, .slice B x.el.length d] 25)) (.cells #[.slice A2 y.sh.length c2, .slice B2 y.el.length d2] 25)
  simp only [World.size_alloc] at b1
  obtain ⟨w2, hw2⟩ : ∃ w2, (w.alloc (.cells #[.slice A x.sh.length c, .slice B x.el.length d] 25)).alloc (.cells #[.slice A2 y.sh.length c2, .slice B2 y.el.length d2] 25) = w2 := ⟨_, rfl⟩
  rw [hw2] at hW b0 b1
  have cS := Lib.hid (shown w2 (hG.below hW))
  have HG2 := Lib.hid (hG.below hW)
  have HU := Lib.hid (hu.below hW)
  have HT := Lib.hid (ht.below hW)
  have b0 := Lib.hid b0; have b1 := Lib.hid b1
  have HW := Lib.hid hW
  have HW2 := Lib.hid hw2
  have q1 := Lib.hid (fun (W : World) (h : Below w2.heap.size w2 W) => h1 ▸ Few _ x W (HU.out.below h))
  have q2 := Lib.hid (fun (W : World) (h : Below w2.heap.size w2 W) => h2 ▸ Few _ y W (HT.out.below h))
  have q3 := Lib.hid (fun (W : World) (h : Below w2.heap.size w2 W) => h3 ▸ MayV _ x W (HU.out.below h))
  have q4 := Lib.hid (fun (W : World) (h : Below w2.heap.size w2 W) => h4 ▸ MayV _ y W (HT.out.below h))
  have hd1 : (x.sh.length == 1) = true := by simpa using h5
  have hd2 : ((x.sh.length : Int) == 1) = true := by simp; omega
  have hd3 : ((x.sh.length : Int) != 1) = false := by simp; omega
  obtain ⟨lx, lxs, _⟩ := few_parts h1
  obtain ⟨ly, lys, _⟩ := few_parts h2
  have qF := Lib.hid (fun (W : World) (h : Below w2.heap.size w2 W) => find_q h1 h2 (find_ok h3 h4 h5) _ _ W (HG2.out.below h) (HU.out.below h) (HT.out.below h))
  have qA := Lib.hid (fun (u : Value) (W : World) (h : Below w2.heap.size w2 W) (hu : IsVal W u (Fv x y)) => all_q (x := Fv x y) (by show ((fl x y).map ofF).length ≤ 300; rw [List.length_map, fl_len]; exact ly) (fl_all lx) u W (HG2.out.below h) hu)
  have qU := Lib.hid (fun (W : World) (h : Below w2.heap.size w2 W) => uniq_q h1 h3 h5 _ W (HU.out.below h))
  have H1 := Lib.hid h1; have H2 := Lib.hid h2; have H3 := Lib.hid h3; have H4 := Lib.hid h4; have H5 := Lib.hid h5
  have HSx := Lib.hid (Kd.C_below hs hW)
  have HSy := Lib.hid (Kd.C_below hs2 hW)
  clear h1 h2 h3 h4 h5
  clear hG hu ht hr hs hr2 hs2 hW hw2
  go_enter Tryz.func3, Tryz.ntmps3
  go_wp2_with fail
  rw [HW2.out]
  refine cS.out.mono ?_
  rintro e w3 ⟨rfl, hb⟩
  have HB := Lib.hid hb
  clear hb
  have k0 : w3.cell? ⟨w.heap.size, 0, none⟩ = some (.slice A x.sh.length c) := blk_cell (blk_below b0.out HB.out) 0
  have k1 : w3.cell? ⟨w.heap.size, 1, none⟩ = some (.slice B x.el.length d) := blk_cell (blk_below b0.out HB.out) 1
  have k2 : w3.cell? ⟨w.heap.size + 1, 0, none⟩ = some (.slice A2 y.sh.length c2) := blk_cell (blk_below b1.out HB.out) 0
  have k3 : w3.cell? ⟨w.heap.size + 1, 1, none⟩ = some (.slice B2 y.el.length d2) := blk_cell (blk_below b1.out HB.out) 1
  go_wp2_with fail
  refine (q1.out _ HB.out).mono ?_
  rintro e w4 ⟨rfl, hb⟩
  have HB1 := Lib.hid (HB.out.trans (hb.mono HB.out.size))
  clear hb HB k0 k1 k2 k3
  obtain ⟨w3, rfl⟩ : ∃ w3, w3 = w4 := ⟨_, rfl⟩
  have HB := HB1
  clear HB1
  have k0 : w3.cell? ⟨w.heap.size, 0, none⟩ = some (.slice A x.sh.length c) := blk_cell (blk_below b0.out HB.out) 0
  have k1 : w3.cell? ⟨w.heap.size, 1, none⟩ = some (.slice B x.el.length d) := blk_cell (blk_below b0.out HB.out) 1
  have k2 : w3.cell? ⟨w.heap.size + 1, 0, none⟩ = some (.slice A2 y.sh.length c2) := blk_cell (blk_below b1.out HB.out) 0
  have k3 : w3.cell? ⟨w.heap.size + 1, 1, none⟩ = some (.slice B2 y.el.length d2) := blk_cell (blk_below b1.out HB.out) 1
  go_wp2_with fail
  refine (q2.out _ HB.out).mono ?_
  rintro e w4 ⟨rfl, hb⟩
  have HB1 := Lib.hid (HB.out.trans (hb.mono HB.out.size))
  clear hb HB k0 k1 k2 k3
  obtain ⟨w3, rfl⟩ : ∃ w3, w3 = w4 := ⟨_, rfl⟩
  have HB := HB1
  clear HB1
  have k0 : w3.cell? ⟨w.heap.size, 0, none⟩ = some (.slice A x.sh.length c) := blk_cell (blk_below b0.out HB.out) 0
  have k1 : w3.cell? ⟨w.heap.size, 1, none⟩ = some (.slice B x.el.length d) := blk_cell (blk_below b0.out HB.out) 1
  have k2 : w3.cell? ⟨w.heap.size + 1, 0, none⟩ = some (.slice A2 y.sh.length c2) := blk_cell (blk_below b1.out HB.out) 0
  have k3 : w3.cell? ⟨w.heap.size + 1, 1, none⟩ = some (.slice B2 y.el.length d2) := blk_cell (blk_below b1.out HB.out) 1
  go_wp2_with fail
  refine (q3.out _ HB.out).mono ?_
  rintro e w4 ⟨rfl, hb⟩
  have HB1 := Lib.hid (HB.out.trans (hb.mono HB.out.size))
  clear hb HB k0 k1 k2 k3
  obtain ⟨w3, rfl⟩ : ∃ w3, w3 = w4 := ⟨_, rfl⟩
  have HB := HB1
  clear HB1
  have k0 : w3.cell? ⟨w.heap.size, 0, none⟩ = some (.slice A x.sh.length c) := blk_cell (blk_below b0.out HB.out) 0
  have k1 : w3.cell? ⟨w.heap.size, 1, none⟩ = some (.slice B x.el.length d) := blk_cell (blk_below b0.out HB.out) 1
  have k2 : w3.cell? ⟨w.heap.size + 1, 0, none⟩ = some (.slice A2 y.sh.length c2) := blk_cell (blk_below b1.out HB.out) 0
  have k3 : w3.cell? ⟨w.heap.size + 1, 1, none⟩ = some (.slice B2 y.el.length d2) := blk_cell (blk_below b1.out HB.out) 1
  go_wp2_with fail
  refine (q4.out _ HB.out).mono ?_
  rintro e w4 ⟨rfl, hb⟩
  have HB1 := Lib.hid (HB.out.trans (hb.mono HB.out.size))
  clear hb HB k0 k1 k2 k3
  obtain ⟨w3, rfl⟩ : ∃ w3, w3 = w4 := ⟨_, rfl⟩
  have HB := HB1
  clear HB1
  have k0 : w3.cell? ⟨w.heap.size, 0, none⟩ = some (.slice A x.sh.length c) := blk_cell (blk_below b0.out HB.out) 0
  have k1 : w3.cell? ⟨w.heap.size, 1, none⟩ = some (.slice B x.el.length d) := blk_cell (blk_below b0.out HB.out) 1
  have k2 : w3.cell? ⟨w.heap.size + 1, 0, none⟩ = some (.slice A2 y.sh.length c2) := blk_cell (blk_below b1.out HB.out) 0
  have k3 : w3.cell? ⟨w.heap.size + 1, 1, none⟩ = some (.slice B2 y.el.length d2) := blk_cell (blk_below b1.out HB.out) 1
  go_wp2_with fail
  refine (qF.out _ HB.out).mono ?_
  rintro e w4 ⟨⟨u4, rfl, ho⟩, hb⟩
  obtain ⟨a4, b4, rfl, ha4, hb4⟩ := ho
  have HV4 := Lib.hid (OwnVal.isVal ⟨_, _, rfl, ha4, hb4⟩)
  obtain ⟨A4, d4, rfl, -⟩ := ha4.row
  obtain ⟨A5, d5, rfl, -⟩ := hb4.row
  have HB4 := Lib.hid (HB.out.trans (hb.mono HB.out.size))
  have hn4 : (Fv x y).sh.length = y.sh.length := rfl
  have hn5 : (Fv x y).el.length = y.el.length := by show ((fl x y).map ofF).length = _; rw [List.length_map, fl_len]
  rw [hn4, hn5] at HV4
  rw [hn4, hn5]
  clear hb ha4 hb4 k0 k1 k2 k3 hn4 hn5 qF
  have HB5 := Lib.hid (below_alloc HB4.out (.cells #[.slice A4 y.sh.length d4, .slice A5 y.el.length d5] 25))
  have HV5 := Lib.hid (HV4.out.below (below_alloc (Below.refl _ _) (.cells #[.slice A4 y.sh.length d4, .slice A5 y.el.length d5] 25)))
  obtain ⟨w5, hw5⟩ : ∃ w5, w4.alloc (.cells #[.slice A4 y.sh.length d4, .slice A5 y.el.length d5] 25) = w5 := ⟨_, rfl⟩
  have HB5 := HB5.out; have HV5 := HV5.out
  rw [hw5] at HB5 HV5
  have HB5 := Lib.hid HB5; have HV5 := Lib.hid HV5; have HW5 := Lib.hid hw5
  clear hw5
  go_wp2_with fail
  rw [HW5.out]
  refine (qA.out _ _ HB5.out HV5.out).mono ?_
  rintro e w6 ⟨⟨u6, rfl, ho⟩, hb⟩
  obtain ⟨A6, d6, rfl, -⟩ := ho.row
  have hn6 : (fl x y).length = y.el.length := fl_len x y
  have HO6 := Lib.hid ho.row
  have HB6 := Lib.hid (HB5.out.trans (hb.mono HB5.out.size))
  rw [hn6] at HO6
  rw [hn6]
  have k0 : w6.cell? ⟨w.heap.size, 0, none⟩ = some (.slice A x.sh.length c) := blk_cell (blk_below b0.out HB6.out) 0
  have k1 : w6.cell? ⟨w.heap.size, 1, none⟩ = some (.slice B x.el.length d) := blk_cell (blk_below b0.out HB6.out) 1
  have k2 : w6.cell? ⟨w.heap.size + 1, 0, none⟩ = some (.slice A2 y.sh.length c2) := blk_cell (blk_below b1.out HB6.out) 0
  have k3 : w6.cell? ⟨w.heap.size + 1, 1, none⟩ = some (.slice B2 y.el.length d2) := blk_cell (blk_below b1.out HB6.out) 1
  clear hb ho qA hn6 HV5 HV4
  go_wp2_with fail
  refine (qU.out _ HB6.out).mono ?_
  rintro e w7 ⟨⟨u7, rfl, ho⟩, hb⟩
  obtain ⟨a7, b7, rfl, ha7, hb7⟩ := ho
  have HV7 := Lib.hid (OwnVal.isVal ⟨_, _, rfl, ha7, hb7⟩)
  obtain ⟨A7, d7, rfl, -⟩ := ha7.row
  obtain ⟨A8, d8, rfl, -⟩ := hb7.row
  have HB7 := Lib.hid (HB6.out.trans (hb.mono HB6.out.size))
  have HO7 := Lib.hid (HO6.out.below hb)
  have hn7 : (U x).sh.length = 1 := rfl
  obtain ⟨m, hm⟩ : ∃ m, (U x).el.length = m := ⟨_, rfl⟩
  rw [hn7, hm] at HV7
  rw [hn7, hm]
  have hmx : m ≤ x.el.length := by rw [← hm]; exact uniqF_len x.el
  clear hb ha7 hb7 k0 k1 k2 k3 hn7 hm qU HO6
  have HB8 := below_alloc HB7.out (.cells #[.slice A7 1 d7, .slice A8 m d8] 25)
  have HV8 := HV7.out.below (below_alloc (Below.refl _ _) (.cells #[.slice A7 1 d7, .slice A8 m d8] 25))
  have HO8 := HO7.out.below (below_alloc (Below.refl _ _) (.cells #[.slice A7 1 d7, .slice A8 m d8] 25))
  have b8 := blk_new w7 (.cells #[.slice A7 1 d7, .slice A8 m d8] 25)
  obtain ⟨w8, hw8⟩ : ∃ w8, w7.alloc (.cells #[.slice A7 1 d7, .slice A8 m d8] 25) = w8 := ⟨_, rfl⟩
  rw [hw8] at HB8 HV8 HO8 b8
  have k3 : w8.cell? ⟨w.heap.size + 1, 1, none⟩ = some (.slice B2 y.el.length d2) := blk_cell (blk_below b1.out HB8) 1
  have HB8 := Lib.hid HB8; have HV8 := Lib.hid HV8; have HO8 := Lib.hid HO8; have b8 := Lib.hid b8
  have k3' : (w7.alloc (.cells #[.slice A7 1 d7, .slice A8 m d8] 25)).cell? ⟨w.heap.size + 1, 1, none⟩ = some (.slice B2 y.el.length d2) := by rw [hw8]; exact k3
  have HW8 := Lib.hid hw8
  clear hw8 HV7 HO7
  go_wp2_with fail
  rw [HW8.out]
  clear k3'
  obtain ⟨A6', d6', e6, hd6, hC6⟩ := HO8.out
  injection e6 with e6a e6b e6c
  subst e6a e6c
  have HC8 := Lib.hid hC6
  have hd6 : y.el.length ≤ d6 := by rw [fl_len] at hd6; exact hd6
  clear hC6 e6b HO8 cS q1 q2 q3 q4 H2 HW5 HW2 k3 HT
  have KX := Lib.hid (fun (W : World) (h : Below w2.heap.size w2 W) => (show W.cell? ⟨w.heap.size, 1, none⟩ = some (.slice B x.el.length d) from blk_cell (blk_below b0.out h) 1))
  have KY := Lib.hid (fun (W : World) (h : Below w2.heap.size w2 W) => (show W.cell? ⟨w.heap.size + 1, 1, none⟩ = some (.slice B2 y.el.length d2) from blk_cell (blk_below b1.out h) 1))
  go_loopw [12, 13] (fun i _ wr => ∃ k : Nat, k ≤ y.el.length ∧ i = .int .i64 (k : Int) ∧ Hid (Below w8.heap.size w8 wr)) (fun i _ _ => y.el.length - (intOf i).toNat)
  case atStart => exact ⟨0, Nat.zero_le _, rfl, Below.refl _ _⟩
  case round =>
    obtain ⟨k, hk, rfl, hb⟩ := hrel
    by_cases hlt : k < y.el.length
    · have hlf : k < (fl x y).length := by rw [fl_len]; exact hlt
      have hB2 := HB8.out.trans (hb.out.mono HB8.out.size)
      have k0 : wr.cell? ⟨w.heap.size, 0, none⟩ = some (.slice A x.sh.length c) := blk_cell (blk_below b0.out hB2) 0
      have k1 : wr.cell? ⟨w.heap.size, 1, none⟩ = some (.slice B x.el.length d) := blk_cell (blk_below b0.out hB2) 1
      have k3 : wr.cell? ⟨w.heap.size + 1, 1, none⟩ = some (.slice B2 y.el.length d2) := blk_cell (blk_below b1.out hB2) 1
      obtain ⟨ad, hA, hcell⟩ := C_cell (Kd.C_below HC8.out hb.out) k hlf
      subst hA
      obtain ⟨yd, hY, hcy⟩ := C_cell (Kd.C_below HSy.out hB2) k hlt
      subst hY
      have hfa := fl_at x y k hlf
      obtain ⟨s, hs⟩ : ∃ s, y.el[k] = s := ⟨_, rfl⟩
      rw [hs] at hcy hfa
      obtain ⟨p, hp⟩ : ∃ p, (fl x y)[k] = p := ⟨_, rfl⟩
      rw [hp] at hcell hfa
      have hps := place_spec x.el s
      rw [← hfa] at hps
      have hpr : ∃ j : Nat, j ≤ x.el.length ∧ p = j ∧ (∀ i (hi : i < x.el.length), i < j → x.el[i] ≠ s) ∧ (j < x.el.length → ∃ h : j < x.el.length, x.el[j] = s) := by
        rcases hps with ⟨h1, h2⟩ | ⟨j, hj, h1, h2, h3⟩
        · exact ⟨x.el.length, Nat.le_refl _, h1, fun i hi _ => h2 _ (List.getElem_mem _), fun h => absurd h (by omega)⟩
        · exact ⟨j, by omega, h1, h3, fun _ => ⟨hj, h2⟩⟩
      obtain ⟨j, hj, rfl, hno, hyes⟩ := hpr
      have HNO := Lib.hid hno
      have HBr := Lib.hid hB2
      have HYd := Lib.hid hs
      have kk0 : (0 : Int) ≤ (k : Int) := Int.natCast_nonneg _
      have kk1 : (k : Int) < (y.el.length : Int) := by omega
      have hd4 : decide (k < y.el.length) = true := by simpa using hlt
      have hd5 : decide ((j : Int) < 0) = false := by simp
      have hd7 : decide (x.el.length < j) = false := by simp; omega
      have jj0 : (0 : Int) ≤ (j : Int) := Int.natCast_nonneg _
      have jj1 : (j : Int) ≤ (x.el.length : Int) := by omega
      have HP := Lib.hid hp
      clear hno hps hfa hp hs hB2
      by_cases hjx : j < x.el.length
      · obtain ⟨_, hxs⟩ := hyes hjx
        obtain ⟨bd, hB, hcx⟩ := C_cell (Kd.C_below HSx.out HBr.out) j hjx
        subst hB
        rw [hxs] at hcx
        have hd8 : decide (j < x.el.length) = true := by simpa using hjx
        have jj2 : (j : Int) < (x.el.length : Int) := by omega
        clear hxs hyes
        go_wp2_with fail
        go_quiet (fail)
        go_wp2_with fail
        have hq := pw_below_drewN hb.out nq
        obtain ⟨wo, hwo⟩ : ∃ wo, wr.drewN nq = wo := ⟨_, rfl⟩
        rw [hwo] at hq
        rw [hwo]
        have HQ := Lib.hid hq
        clear hq hwo k0 k1 k3 hcell hcy
        go_loopw [13] (fun i wi => ∃ m : Nat, m ≤ j ∧ i = .int .i64 (m : Int) ∧ Hid (Below w8.heap.size w8 wi)) (fun i _ => j - (intOf i).toNat)
        case atStart => exact ⟨0, Nat.zero_le _, rfl, HQ.out⟩
        case round =>
          obtain ⟨m, hm, rfl, hbi⟩ := hrel
          have hB2 := HB8.out.trans (hbi.out.mono HB8.out.size)
          have k1 := KX.out _ hB2
          have k3 := KY.out _ hB2
          have hcell := cell_to (Kd.C_below HC8.out hbi.out) k hlf HP.out
          have hcy := cell_to (Kd.C_below HSy.out hB2) k hlt HYd.out
          by_cases hmj : m < j
          · have hmx2 : m < x.el.length := by omega
            obtain ⟨r, hr⟩ : ∃ r, x.el[m] = r := ⟨_, rfl⟩
            have hcx2 := cell_to (Kd.C_below HSx.out hB2) m hmx2 hr
            have hne : r ≠ s := hr ▸ HNO.out m hmx2 hmj
            have hq1 : (r.toList == s.toList) = false := by simpa using fun h => hne (bl_inj h)
            have hq2 : (r.toList != s.toList) = true := by simpa using fun h => hne (bl_inj h)
            have mm0 : (0 : Int) ≤ (m : Int) := Int.natCast_nonneg _
            have mm1 : (m : Int) < (x.el.length : Int) := by omega
            have hd9 : decide (m < j) = true := by simpa using hmj
            have HBi := Lib.hid hbi.out
            clear hne hr hB2 hbi
            go_wp2_with fail
            go_quiet (fail)
            go_wp2
            go_roundw
            case rel => exact ⟨m + 1, by omega, by go_num, pw_below_drewN HBi.out _⟩
            case measure => simp [intOf]; omega
          · have hmj2 : m = j := by omega
            subst hmj2
            have hd9 : decide (m < m) = false := by simp
            have hd10 : decide ((m : Int) < (m : Int)) = false := by simp
            have HBi := Lib.hid hbi.out
            clear hbi hB2 hmj
            go_wp2
            go_roundw
            case rel => exact ⟨k + 1, by omega, by go_num, HBi.out⟩
            case measure => simp [intOf]; omega
      · have hjx2 : j = x.el.length := by omega
        subst hjx2
        have hd8 : decide (x.el.length < x.el.length) = false := by simp
        have hd10 : decide ((x.el.length : Int) < (x.el.length : Int)) = false := by simp
        clear hyes hjx
        go_wp2_with fail
        go_quiet (fail)
        go_wp2_with fail
        have hq := pw_below_drewN hb.out nq
        obtain ⟨wo, hwo⟩ : ∃ wo, wr.drewN nq = wo := ⟨_, rfl⟩
        rw [hwo] at hq
        rw [hwo]
        have HQ := Lib.hid hq
        clear hq hwo k0 k1 k3 hcell hcy
        go_loopw [13] (fun i wi => ∃ m : Nat, m ≤ x.el.length ∧ i = .int .i64 (m : Int) ∧ Hid (Below w8.heap.size w8 wi)) (fun i _ => x.el.length - (intOf i).toNat)
        case atStart => exact ⟨0, Nat.zero_le _, rfl, HQ.out⟩
        case round =>
          obtain ⟨m, hm, rfl, hbi⟩ := hrel
          have hB2 := HB8.out.trans (hbi.out.mono HB8.out.size)
          have k1 := KX.out _ hB2
          have k3 := KY.out _ hB2
          have hcell := cell_to (Kd.C_below HC8.out hbi.out) k hlf HP.out
          have hcy := cell_to (Kd.C_below HSy.out hB2) k hlt HYd.out
          by_cases hmj : m < x.el.length
          · have hmx2 : m < x.el.length := by omega
            obtain ⟨r, hr⟩ : ∃ r, x.el[m] = r := ⟨_, rfl⟩
            have hCx := Kd.C_below HSx.out hB2
            obtain ⟨bd, hB, hcx0⟩ := C_cell hCx m hmx2
            rw [hB] at hCx k1
            have hcx2 := cell_to hCx m hmx2 hr
            clear hB hCx hcx0
            have hne : r ≠ s := hr ▸ HNO.out m hmx2 hmj
            have hq1 : (r.toList == s.toList) = false := by simpa using fun h => hne (bl_inj h)
            have hq2 : (r.toList != s.toList) = true := by simpa using fun h => hne (bl_inj h)
            have mm0 : (0 : Int) ≤ (m : Int) := Int.natCast_nonneg _
            have mm1 : (m : Int) < (x.el.length : Int) := by omega
            have hd9 : decide (m < x.el.length) = true := by simpa using hmj
            have HBi := Lib.hid hbi.out
            clear hne hr hB2 hbi
            go_wp2_with fail
            go_quiet (fail)
            go_wp2
            go_roundw
            case rel => exact ⟨m + 1, by omega, by go_num, pw_below_drewN HBi.out _⟩
            case measure => simp [intOf]; omega
          · have hmj2 : m = x.el.length := by omega
            subst hmj2
            have hd9 : decide (m < m) = false := by simp
            have hd10 : decide ((m : Int) < (m : Int)) = false := by simp
            have HBi := Lib.hid hbi.out
            clear hbi hB2 hmj
            go_wp2
            go_roundw
            case rel => exact ⟨k + 1, by omega, by go_num, HBi.out⟩
            case measure => simp [intOf]; omega
    · have hk2 : k = y.el.length := by omega
      subst hk2
      have hd4 : decide (y.el.length < y.el.length) = false := by simp
      have hB2 := Lib.hid (HB8.out.trans (hb.out.mono HB8.out.size))
      have b82 := Lib.hid (blk_below b8.out hb.out)
      have HV82 := Lib.hid (HV8.out.below hb.out)
      have k0 : wr.cell? ⟨w.heap.size, 0, none⟩ = some (.slice A x.sh.length c) := blk_cell (blk_below b0.out hB2.out) 0
      have k1 : wr.cell? ⟨w.heap.size, 1, none⟩ = some (.slice B x.el.length d) := blk_cell (blk_below b0.out hB2.out) 1
      have k4 : wr.cell? ⟨w7.heap.size, 0, none⟩ = some (.slice A7 1 d7) := blk_cell b82.out 0
      have k5 : wr.cell? ⟨w7.heap.size, 1, none⟩ = some (.slice A8 m d8) := blk_cell b82.out 1
      have qF2 := Lib.hid (find_U2 H1.out H3.out lx _ _ wr (HG2.out.below hB2.out) HV82.out (HU.out.below hB2.out))
      clear hlt hb
      go_wp2_with fail
      refine qF2.out.mono ?_
      rintro e w9 ⟨⟨u9, rfl, ho⟩, hb⟩
      obtain ⟨a9, b9, rfl, ha9, hb9⟩ := ho
      have HV9 := Lib.hid (OwnVal.isVal ⟨_, _, rfl, ha9, hb9⟩)
      obtain ⟨A9, d9, rfl, -⟩ := ha9.row
      obtain ⟨A10, d10, rfl, -⟩ := hb9.row
      have hB3 := Lib.hid (hB2.out.trans (hb.mono hB2.out.size))
      have hn9 : (X x).sh.length = x.sh.length := rfl
      have hn10 : (X x).el.length = x.el.length := by show (x.el.map _).length = _; rw [List.length_map]
      rw [hn9, hn10] at HV9
      rw [hn9, hn10]
      have b83 := blk_below b82.out hb
      have HV83 := HV82.out.below hb
      clear hb ha9 hb9 k0 k1 k4 k5 hn9 hn10 qF2
      have hB4 := below_alloc hB3.out (.cells #[.slice A9 x.sh.length d9, .slice A10 x.el.length d10] 25)
      have HV10 := HV9.out.below (below_alloc (Below.refl _ _) (.cells #[.slice A9 x.sh.length d9, .slice A10 x.el.length d10] 25))
      have HV84 := HV83.below (below_alloc (Below.refl _ _) (.cells #[.slice A9 x.sh.length d9, .slice A10 x.el.length d10] 25))
      have b84 := blk_alloc b83 (.cells #[.slice A9 x.sh.length d9, .slice A10 x.el.length d10] 25)
      obtain ⟨w10, hw10⟩ : ∃ w10, w9.alloc (.cells #[.slice A9 x.sh.length d9, .slice A10 x.el.length d10] 25) = w10 := ⟨_, rfl⟩
      rw [hw10] at hB4 HV10 HV84 b84
      have HW10 := Lib.hid hw10
      have qI := Lib.hid (index_U2 H3.out H5.out lx lxs _ _ w10 (HG2.out.below hB4) HV84 HV10)
      have k4 : (w9.alloc (.cells #[.slice A9 x.sh.length d9, .slice A10 x.el.length d10] 25)).cell? ⟨w7.heap.size, 0, none⟩ = some (.slice A7 1 d7) := by rw [hw10]; exact blk_cell b84 0
      have k5 : (w9.alloc (.cells #[.slice A9 x.sh.length d9, .slice A10 x.el.length d10] 25)).cell? ⟨w7.heap.size, 1, none⟩ = some (.slice A8 m d8) := by rw [hw10]; exact blk_cell b84 1
      have hB4 := Lib.hid hB4; have b84 := Lib.hid b84
      clear hw10 HV10 HV84 HV83 b83
      go_wp2_with fail
      rw [HW10.out]
      clear k4 k5
      refine qI.out.mono ?_
      rintro e w11 ⟨⟨u11, q11, r11, rfl, ho, hq11⟩, hb⟩
      obtain ⟨a11, b11, rfl, ha11, hb11⟩ := ho
      have HV11 := Lib.hid (OwnVal.isVal ⟨_, _, rfl, ha11, hb11⟩)
      obtain ⟨A11, d11, rfl, -⟩ := ha11.row
      obtain ⟨A12, d12, rfl, -⟩ := hb11.row
      have hB5 := Lib.hid (hB4.out.trans (hb.mono hB4.out.size))
      have b85 := blk_below b84.out hb
      have HQ11 := Lib.hid hq11
      clear hb ha11 hb11 hq11 qI
      obtain ⟨n11, hn11⟩ : ∃ n, r11.sh.length = n := ⟨_, rfl⟩
      obtain ⟨n12, hn12⟩ : ∃ n, r11.el.length = n := ⟨_, rfl⟩
      rw [hn11, hn12] at HV11
      rw [hn11, hn12]
      have hB6 := below_alloc hB5.out (.cells #[.slice A11 n11 d11, .slice A12 n12 d12] 25)
      have HV12 := HV11.out.below (below_alloc (Below.refl _ _) (.cells #[.slice A11 n11 d11, .slice A12 n12 d12] 25))
      have b86 := blk_alloc b85 (.cells #[.slice A11 n11 d11, .slice A12 n12 d12] 25)
      obtain ⟨w12, hw12⟩ : ∃ w12, w11.alloc (.cells #[.slice A11 n11 d11, .slice A12 n12 d12] 25) = w12 := ⟨_, rfl⟩
      rw [hw12] at hB6 HV12 b86
      have k0 : (w11.alloc (.cells #[.slice A11 n11 d11, .slice A12 n12 d12] 25)).cell? ⟨w.heap.size, 0, none⟩ = some (.slice A x.sh.length c) := by rw [hw12]; exact blk_cell (blk_below b0.out hB6) 0
      have k1 : (w11.alloc (.cells #[.slice A11 n11 d11, .slice A12 n12 d12] 25)).cell? ⟨w.heap.size, 1, none⟩ = some (.slice B x.el.length d) := by rw [hw12]; exact blk_cell (blk_below b0.out hB6) 1
      have k5 : (w11.alloc (.cells #[.slice A11 n11 d11, .slice A12 n12 d12] 25)).cell? ⟨w7.heap.size, 1, none⟩ = some (.slice A8 m d8) := by rw [hw12]; exact blk_cell b86 1
      have hB6 := Lib.hid hB6; have HV12 := Lib.hid HV12; have b86 := Lib.hid b86; have HW12 := Lib.hid hw12
      clear hw12 hn11 hn12 b85
      have hmm1 : (m : Int) ≤ (x.el.length : Int) := by omega
      have hd12 : decide ((m : Int) ≤ (x.el.length : Int)) = true := by simpa using hmx
      have hd13 : decide (m ≤ x.el.length) = true := by simpa using hmx
      by_cases hz : x.el.length = 0
      · have hd14 : ((x.el.length : Int) == 0) = true := beq_iff_eq.2 (by omega)
        have hd15 : (x.el.length == 0) = true := beq_iff_eq.2 hz
        have HZ := Lib.hid hz
        clear hz
        go_wp2
        go_ret
        refine ⟨rfl, ?_⟩
        rw [HW12.out]
        exact HW.out.trans (hB6.out.mono HW.out.size)
      · have hd14 : ((x.el.length : Int) == 0) = false := beq_false_of_ne (by omega)
        have hd15 : (x.el.length == 0) = false := beq_false_of_ne hz
        obtain ⟨hqz, hrx⟩ := HQ11.out hz
        subst hqz
        have cS := Lib.hid (fun (W : World) (h : Below w12.heap.size w12 W) => same_yes _ _ x W ((hrx ▸ HV12.out).below h) ((HU.out.below hB6.out).below h))
        clear hz hrx
        go_wp2_with fail
        rw [HW12.out]
        refine (cS.out _ (Below.refl _ _)).mono ?_
        rintro e w13 ⟨rfl, hb⟩
        have hB7 := Lib.hid (hB6.out.trans (hb.mono hB6.out.size))
        have k1 : w13.cell? ⟨w.heap.size, 1, none⟩ = some (.slice B x.el.length d) := blk_cell (blk_below b0.out hB7.out) 1
        have k5 : w13.cell? ⟨w7.heap.size, 1, none⟩ = some (.slice A8 m d8) := blk_cell (blk_below b86.out hb) 1
        clear hb cS
        go_wp2
        go_ret
        exact ⟨rfl, HW.out.trans (hB7.out.mono HW.out.size)⟩
end Go.Proofs.YthjcnifdlfjieaaGreatDoor.Ii
