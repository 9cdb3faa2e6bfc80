import Derived.Test.YthjcnifdlfjieaaGreatDoorHs
set_option linter.unusedVariables false
set_option linter.unusedSimpArgs false
namespace Go.Proofs.YthjcnifdlfjieaaGreatDoor.Ht
open Go.RowKit Go.Shelf Go.Proofs.YthjcnifdlfjieaaGreatDoorW.PrintWords Go.Proofs.YthjcnifdlfjieaaGreatDoor.Ha Go.Proofs.YthjcnifdlfjieaaGreatDoor.Hb Go.Proofs.YthjcnifdlfjieaaGreatDoor.Hc Go.Proofs.YthjcnifdlfjieaaGreatDoor.Hp Go.Proofs.YthjcnifdlfjieaaGreatDoor.Hd Go.Proofs.YthjcnifdlfjieaaGreatDoor.He Go.Proofs.YthjcnifdlfjieaaGreatDoor.Hf Go.Proofs.YthjcnifdlfjieaaGreatDoor.Hg Go.Proofs.YthjcnifdlfjieaaGreatDoor.Hh Go.Proofs.YthjcnifdlfjieaaGreatDoor.Hi Go.Proofs.YthjcnifdlfjieaaGreatDoor.Hm Go.Proofs.YthjcnifdlfjieaaGreatDoor.Hj Go.Proofs.YthjcnifdlfjieaaGreatDoor.Hk Go.Proofs.YthjcnifdlfjieaaGreatDoor.Hl Go.Proofs.YthjcnifdlfjieaaGreatDoor.Hn Go.Proofs.YthjcnifdlfjieaaGreatDoor.Ho Go.Proofs.YthjcnifdlfjieaaGreatDoor.Hq Go.Proofs.YthjcnifdlfjieaaGreatDoor.Hs

set_option maxRecDepth 100000 in
set_option maxHeartbeats 4000000 in
theorem plus1 (u v : Value) (a b : Int) (w : World) (hu : IsOne w u a) (hv : IsOne w v b) (hne : a ≠ b) (ha : 0 < a ∧ a < 1000000000) (hb : 0 < b ∧ b < 1000000000) :
    Calls Tryz.prog 73 #[.agg #[u, .bool false], .agg #[v, .bool true]] w fun e w' => ∃ r p, e = .returned (.agg #[r, .bool (decide (a < b))]) ∧ IsOne w' r p ∧ Below w.heap.size w w' := by
  obtain ⟨A, c, rfl, hc, hr⟩ := id hu
  obtain ⟨B, d, rfl, hd, hs⟩ := id hv
  have hl1 : [a].length = 1 := rfl
  have hl2 : [b].length = 1 := rfl
  have hW := below_alloc (below_alloc (below_alloc (Below.refl w.heap.size w) (.cells #[.slice A 1 c, .bool false] 99)) (.cells #[.slice B 1 d, .bool true] 99)) (.cells #[.slice none 0 0, .bool false] 99)
  have b0 := Lib.hid (blk_alloc (blk_alloc (blk_new w (.cells #[.slice A 1 c, .bool false] 99)) (.cells #[.slice B 1 d, .bool true] 99)) (.cells #[.slice none 0 0, .bool false] 99))
  have b1 := blk_alloc (blk_new (w.alloc (.cells #[.slice A 1 c, .bool false] 99)) (.cells #[.slice B 1 d, .bool true] 99)) (.cells #[.slice none 0 0, .bool false] 99)
  have b2 := blk_new ((w.alloc (.cells #[.slice A 1 c, .bool false] 99)).alloc (.cells #[.slice B 1 d, .bool true] 99)) (.cells #[.slice none 0 0, .bool false] 99)
  simp only [World.size_alloc] at b1 b2
  have B1 := Lib.hid b1; have B2 := Lib.hid b2
  have HW := Lib.hid hW
  have cC := Lib.hid (compare1 _ _ a b _ (hu.below hW) (hv.below hW) hne)
  have HU := Lib.hid hu; have HV := Lib.hid hv
  rw [hl1, hl2] at cC
  rw [hl1, hl2]
  clear hr hs hu hv hW b1 b2
  by_cases hab : a < b
  · have hcm : cmpI a b = -1 := by unfold cmpI; rw [if_pos hab]
    rw [hcm] at cC
    have cL := Lib.hid (fun (W : World) (h : Below w.heap.size w W) => less1 _ _ b a W (HV.out.below h) (HU.out.below h) ha.1 hab hb.2)
    rw [hl1, hl2] at cL
    have hd : decide (a < b) = true := by simpa using hab
    rw [hd]
    clear hcm hab hd hl1 hl2 ha hb hne
    go_enter Tryz.func73, Tryz.ntmps73
    go_wp2_with fail
    refine cC.out.mono ?_
    rintro e w1 ⟨rfl, hb⟩
    have B01 := Lib.hid (blk_below b0.out hb)
    have B11 := Lib.hid (blk_below B1.out (hb.mono (by simp)))
    have B21 := Lib.hid (blk_below B2.out (hb.mono (by simp)))
    have HB := Lib.hid (HW.out.trans (hb.mono (by have := HW.out.size; simp at this ⊢; omega)))
    have k0 : w1.cell? ⟨w.heap.size, 0, none⟩ = some (.slice A 1 c) := blk_cell B01.out 0
    have k1 : w1.cell? ⟨w.heap.size + 1, 0, none⟩ = some (.slice B 1 d) := blk_cell B11.out 0
    have k2 : w1.cell? ⟨w.heap.size + 1, 1, none⟩ = some (.bool true) := blk_cell B11.out 1
    clear hb
    go_wp2_with fail
    have hn1 : (w.heap.size = w.heap.size + 1 + 1) = False := eq_false (by omega)
    have hn2 : (w.heap.size + 1 + 1 = w.heap.size) = False := eq_false (by omega)
    go_region_held3 (fun w' => w'.cell? ⟨w.heap.size, 0, none⟩ = some (.slice A 1 c) ∧ w'.cell? ⟨w.heap.size + 1, 0, none⟩ = some (.slice B 1 d) ∧ w'.cell? ⟨w.heap.size + 1, 1, none⟩ = some (.bool true)) (go_keep)
      (first
        | (go_at_call 89
           refine (cL.out _ (by first | exact HB.out.drew | exact HB.out)).mono ?_
           rintro e w6 ⟨r, rfl, hr, hb6⟩
           have hb6' : Below w1.heap.size w1 w6 := (Below.refl _ w1).drew.trans (hb6.mono (Nat.le_refl _))
           have q0 := pw_cell_below hb6' k0
           have q1 := pw_cell_below hb6' k1
           have q2 := pw_cell_below hb6' k2
           have B26 := Lib.hid (blk_below B21.out hb6')
           have q3 : w6.cell? ⟨w.heap.size + 1 + 1, 0, none⟩ = some (.slice none 0 0) := blk_cell B26.out 0
           have q4 : w6.cell? ⟨w.heap.size + 1 + 1, 1, none⟩ = some (.bool false) := blk_cell B26.out 1
           have q5 := blk_frozen B26.out 0
           have q6 := blk_frozen B26.out 1
           have HB6 := Lib.hid (HB.out.trans (hb6'.mono HB.out.size))
           obtain ⟨A6, d6, rfl, -⟩ := hr.row
           have HR6 := Lib.hid hr
           have hl6 : [b - a].length = 1 := rfl
           rw [hl6]
           clear hb6 hb6' hr hl6))
    all_goals
      have HF := Lib.hid (((HR6.out.set B26.out (by decide) 0 (.slice A6 1 d6)).set (blk_set B26.out 0 (.slice A6 1 d6)) (by decide) 1 (.bool true)).row)
      go_wp2
      refine bodyPost_ret (v := .agg #[.slice A6 1 d6, .bool true]) (by simp [results, Tryz.results73, go_sem, q3, q4]) rfl ?_
      exact ⟨_, _, rfl, HF.out, (HB6.out.setCell (p := ⟨w.heap.size + 1 + 1, 0, none⟩) (by simp; omega) _).setCell (p := ⟨w.heap.size + 1 + 1, 1, none⟩) (by simp; omega) _⟩
  · have hab2 : b < a := by omega
    have hcm : cmpI a b = 1 := by unfold cmpI; rw [if_neg hab, if_pos hab2]
    rw [hcm] at cC
    have cL := Lib.hid (fun (W : World) (h : Below w.heap.size w W) => less1 _ _ a b W (HU.out.below h) (HV.out.below h) hb.1 hab2 ha.2)
    rw [hl1, hl2] at cL
    have hd : decide (a < b) = false := by simpa using hab
    rw [hd]
    clear hcm hab hab2 hd hl1 hl2 ha hb hne
    go_enter Tryz.func73, Tryz.ntmps73
    go_wp2_with fail
    refine cC.out.mono ?_
    rintro e w1 ⟨rfl, hb⟩
    have B01 := Lib.hid (blk_below b0.out hb)
    have B11 := Lib.hid (blk_below B1.out (hb.mono (by simp)))
    have B21 := Lib.hid (blk_below B2.out (hb.mono (by simp)))
    have HB := Lib.hid (HW.out.trans (hb.mono (by have := HW.out.size; simp at this ⊢; omega)))
    have k0 : w1.cell? ⟨w.heap.size, 0, none⟩ = some (.slice A 1 c) := blk_cell B01.out 0
    have k1 : w1.cell? ⟨w.heap.size + 1, 0, none⟩ = some (.slice B 1 d) := blk_cell B11.out 0
    have k2 : w1.cell? ⟨w.heap.size, 1, none⟩ = some (.bool false) := blk_cell B01.out 1
    clear hb
    go_wp2_with fail
    have hn1 : (w.heap.size = w.heap.size + 1 + 1) = False := eq_false (by omega)
    have hn2 : (w.heap.size + 1 + 1 = w.heap.size) = False := eq_false (by omega)
    go_region_held3 (fun w' => w'.cell? ⟨w.heap.size, 0, none⟩ = some (.slice A 1 c) ∧ w'.cell? ⟨w.heap.size + 1, 0, none⟩ = some (.slice B 1 d) ∧ w'.cell? ⟨w.heap.size, 1, none⟩ = some (.bool false)) (go_keep)
      (first
        | (go_at_call 89
           refine (cL.out _ (by first | exact HB.out.drew | exact HB.out)).mono ?_
           rintro e w6 ⟨r, rfl, hr, hb6⟩
           have hb6' : Below w1.heap.size w1 w6 := (Below.refl _ w1).drew.trans (hb6.mono (Nat.le_refl _))
           have q0 := pw_cell_below hb6' k0
           have q1 := pw_cell_below hb6' k1
           have q2 := pw_cell_below hb6' k2
           have B26 := Lib.hid (blk_below B21.out hb6')
           have q3 : w6.cell? ⟨w.heap.size + 1 + 1, 0, none⟩ = some (.slice none 0 0) := blk_cell B26.out 0
           have q4 : w6.cell? ⟨w.heap.size + 1 + 1, 1, none⟩ = some (.bool false) := blk_cell B26.out 1
           have q5 := blk_frozen B26.out 0
           have q6 := blk_frozen B26.out 1
           have HB6 := Lib.hid (HB.out.trans (hb6'.mono HB.out.size))
           obtain ⟨A6, d6, rfl, -⟩ := hr.row
           have HR6 := Lib.hid hr
           have hl6 : [a - b].length = 1 := rfl
           rw [hl6]
           clear hb6 hb6' hr hl6))
    all_goals
      have HF := Lib.hid (((HR6.out.set B26.out (by decide) 0 (.slice A6 1 d6)).set (blk_set B26.out 0 (.slice A6 1 d6)) (by decide) 1 (.bool false)).row)
      go_wp2
      refine bodyPost_ret (v := .agg #[.slice A6 1 d6, .bool false]) (by simp [results, Tryz.results73, go_sem, q3, q4]) rfl ?_
      exact ⟨_, _, rfl, HF.out, (HB6.out.setCell (p := ⟨w.heap.size + 1 + 1, 0, none⟩) (by simp; omega) _).setCell (p := ⟨w.heap.size + 1 + 1, 1, none⟩) (by simp; omega) _⟩

set_option maxRecDepth 100000 in
set_option maxHeartbeats 4000000 in
theorem Cmp1 (s t : ByteArray) (a b : Int) (w : World) (hs : Small s a) (ht : Small t b) (hms : mayB s = true) (hmt : mayB t = true) (hne : a ≠ b) :
    Calls Tryz.prog 46 #[.string s, .string t] w fun e w' => e = .returned (.int .i64 (cmpI a b)) ∧ Below w.heap.size w w' := by
  have m1 := Lib.hid (fun (W : World) => hms ▸ May s W)
  have m2 := Lib.hid (fun (W : World) => hmt ▸ May t W)
  have r1 := Lib.hid (fun (W : World) => read1 s a W hs)
  have r2 := Lib.hid (fun (W : World) => read1 t b W ht)
  have pl := Lib.hid (fun (u v : Value) (W : World) (hu : IsOne W u a) (hv : IsOne W v b) => plus1 u v a b W hu hv hne hs.pos ht.pos)
  have hcm : Hid (cmpI a b = if a < b then -1 else 1) := by
    show _ = _
    unfold cmpI
    split
    · rfl
    · rw [if_pos (by omega)]
  have cond : ∀ q : Bool, decide (a < b) = q → Calls Tryz.prog 46 #[.string s, .string t] w fun e w' => e = .returned (.int .i64 (cmpI a b)) ∧ Below w.heap.size w w' := by
    intro q hq
    have hq2 : Hid (cmpI a b = if q = true then -1 else 1) := by
      show _ = _
      rw [hcm.out, ← hq]
      by_cases h : a < b <;> simp [h]
    rw [hq] at pl
    clear hq hcm hs ht hms hmt hne
    go_enter Tryz.func46, Tryz.ntmps46
    go_wp2_with fail
    refine (m1.out _).mono ?_
    rintro e w1 ⟨rfl, hb1⟩
    have HB1 := Lib.hid hb1
    clear hb1
    go_wp2_with fail
    refine (m2.out _).mono ?_
    rintro e w2 ⟨rfl, hb1⟩
    have HB2 := Lib.hid (HB1.out.trans (hb1.mono HB1.out.size))
    clear hb1
    go_wp2_with fail
    refine (r1.out _).mono ?_
    rintro e w3 ⟨v3, rfl, h3, hb1⟩
    obtain ⟨A3, d3, rfl, -⟩ := id h3
    have HB3 := Lib.hid (HB2.out.trans (hb1.mono HB2.out.size))
    have H3 := Lib.hid h3
    clear hb1 h3
    go_wp2_with fail
    refine (r2.out _).mono ?_
    rintro e w4 ⟨v4, rfl, h4, hb1⟩
    obtain ⟨A4, d4, rfl, -⟩ := id h4
    have HB4 := Lib.hid (HB3.out.trans (hb1.mono HB3.out.size))
    have H4 := Lib.hid h4
    have H34 := Lib.hid (H3.out.below hb1)
    clear hb1 h4
    go_wp2_with fail
    refine (turned1 A4 d4 _).mono ?_
    rintro e w5 ⟨rfl, hb1⟩
    have HB5 := Lib.hid (HB4.out.trans (hb1.mono HB4.out.size))
    have H45 := Lib.hid (H4.out.below hb1)
    have H35 := Lib.hid (H34.out.below hb1)
    clear hb1
    go_wp2_with fail
    refine (pl.out _ _ _ H35.out H45.out).mono ?_
    rintro e w6 ⟨v6, p, rfl, h6, hb1⟩
    obtain ⟨A6, d6, rfl, -⟩ := id h6
    have hl6 : [p].length = 1 := rfl
    rw [hl6]
    have HB6 := Lib.hid (below_alloc (HB5.out.trans (hb1.mono HB5.out.size)) (.cells #[.slice A6 1 d6, .bool q] 99))
    clear hb1 h6 hl6
    cases q
    · go_wp2
      go_ret
      exact ⟨ret_int (by rw [hq2.out]; rfl), HB6.out⟩
    · go_wp2
      go_ret
      exact ⟨ret_int (by rw [hq2.out]; rfl), HB6.out⟩
  exact cond _ rfl
end Go.Proofs.YthjcnifdlfjieaaGreatDoor.Ht
