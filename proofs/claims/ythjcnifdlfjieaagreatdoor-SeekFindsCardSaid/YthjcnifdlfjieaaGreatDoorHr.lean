import Derived.Test.YthjcnifdlfjieaaGreatDoorHq
set_option linter.unusedVariables false
set_option linter.unusedSimpArgs false
namespace Go.Proofs.YthjcnifdlfjieaaGreatDoor.Hr
open Go.RowKit Go.Shelf Go.Proofs.YthjcnifdlfjieaaGreatDoorW.PrintWords Go.Proofs.YthjcnifdlfjieaaGreatDoor.Ha Go.Proofs.YthjcnifdlfjieaaGreatDoor.Hb Go.Proofs.YthjcnifdlfjieaaGreatDoor.Hc Go.Proofs.YthjcnifdlfjieaaGreatDoor.Hp Go.Proofs.YthjcnifdlfjieaaGreatDoor.Hd Go.Proofs.YthjcnifdlfjieaaGreatDoor.He Go.Proofs.YthjcnifdlfjieaaGreatDoor.Hf Go.Proofs.YthjcnifdlfjieaaGreatDoor.Hg Go.Proofs.YthjcnifdlfjieaaGreatDoor.Hh Go.Proofs.YthjcnifdlfjieaaGreatDoor.Hi Go.Proofs.YthjcnifdlfjieaaGreatDoor.Hm Go.Proofs.YthjcnifdlfjieaaGreatDoor.Hj Go.Proofs.YthjcnifdlfjieaaGreatDoor.Hk Go.Proofs.YthjcnifdlfjieaaGreatDoor.Hl Go.Proofs.YthjcnifdlfjieaaGreatDoor.Hn Go.Proofs.YthjcnifdlfjieaaGreatDoor.Ho Go.Proofs.YthjcnifdlfjieaaGreatDoor.Hq

theorem allF_len (l : List ByteArray) : ∀ r, allF l = some r → r.length = l.length := by
  induction l with
  | nil => intro r h; simp [allF] at h; subst h; rfl
  | cons s l ih =>
    intro r h
    simp only [allF] at h
    cases ho : oneF s with
    | none => rw [ho] at h; simp at h
    | some n =>
      rw [ho] at h
      cases ha : allF l with
      | none => rw [ha] at h; simp at h
      | some q => rw [ha] at h; simp at h; subst h; simp [ih q ha]
theorem placesF_len (l : List ByteArray) (m : Int) : (placesF l m).1.length ≤ l.length := by
  unfold placesF
  cases ha : allF l with
  | none => simp
  | some r =>
    have := allF_len l r ha
    show (if _ then ([], (6 : Int)) else (r, (0 : Int))).1.length ≤ _
    split
    · simp
    · simp [this]
def indexE (x y : V) : Int := if fineF x [y] = 1 ∨ x.sh = [] then max (fineF x [y]) 1 else if (placesF y.el (itemsN x.sh)).2 ≠ 0 then (placesF y.el (itemsN x.sh)).2 else (sizeF (y.sh ++ x.sh.drop 1)).2
def picks (x : V) (l : List Int) : List ByteArray := (l.map (fun i => (itemR x i).1.el)).flatten
def indexF (x y : V) : V × Int := if indexE x y = 0 then (⟨y.sh ++ x.sh.drop 1, picks x (placesF y.el (itemsN x.sh)).1⟩, 0) else (V0, indexE x y)
theorem fineF_cases (x y : V) : fineF x [y] = 0 ∨ fineF x [y] = 1 ∨ fineF x [y] = 3 := by
  unfold fineF
  split
  · exact .inr (.inl rfl)
  · split
    · exact .inl rfl
    · exact .inr (.inr rfl)
theorem itemR_len (x : V) (i : Int) : (itemR x i).1.el.length ≤ x.el.length := by
  unfold itemR
  split
  · simp [itemF]; omega
  · simp [V0]
theorem picks_next (x : V) (l : List Int) (k : Nat) (h : k < l.length) : picks x (l.take k) ++ (itemR x l[k]).1.el = picks x (l.take (k + 1)) := by
  unfold picks
  rw [List.take_succ_eq_append_getElem h, List.map_append, List.flatten_append]; simp only [List.map_cons, List.map_nil, List.flatten_cons, List.flatten_nil, List.append_nil]
theorem isRows_two (W : World) (A B : Option Addr) (c d : Nat) (a b : List Int) (ha : Kd.C (Kd.int .i64) W A a.length a) (hc : a.length ≤ c) (hb : Kd.C (Kd.int .i64) W B b.length b) (hd : b.length ≤ d) :
    IsRows (W.alloc (.cells #[.slice A a.length c, .slice B b.length d] 22)) (.slice (some ⟨W.heap.size, 0, none⟩) 2 2) [a, b] := by
  have hW := below_alloc (Below.refl W.heap.size W) (.cells #[.slice A a.length c, .slice B b.length d] 22)
  refine ⟨_, _, rfl, Nat.le_refl _, by simp, fun _ => ⟨_, rfl, fun j hj => ?_⟩⟩
  have hj2 : j = 0 ∨ j = 1 := by simp at hj; omega
  rcases hj2 with rfl | rfl
  · exact ⟨A, c, by rw [Addr.add_zero']; exact blk_cell (blk_new W _) 0, hc, Kd.C_below ha hW⟩
  · exact ⟨B, d, by simp [Addr.add], hd, Kd.C_below hb hW⟩

set_option maxRecDepth 100000 in
set_option maxHeartbeats 8000000 in
theorem Index (u t : Value) (x y : V) (w : World) (hG : G w) (hu : IsVal w u x) (ht : IsVal w t y) (hn : x.el.length ≤ 65535) (hn2 : y.el.length ≤ 65535) (hn3 : x.sh.length ≤ 65535) (hn4 : y.sh.length ≤ 65535) :
    Calls Tryz.prog 11 #[u, t] w fun e w' => RV w.heap.size (indexF x y) e w' ∧ Below w.heap.size w w' := by
  obtain ⟨a, b, rfl, ⟨A, c, rfl, hc, hr⟩, ⟨B, d, rfl, hd, hs⟩⟩ := id hu
  obtain ⟨a', b', rfl, ⟨A', c', rfl, hc', hr'⟩, ⟨B', d', rfl, hd', hs'⟩⟩ := id ht
  have hW := below_alloc (below_alloc (below_alloc (Below.refl w.heap.size w) (.cells #[.slice A x.sh.length c, .slice B x.el.length d] 25)) (.cells #[.slice A' y.sh.length c', .slice B' y.el.length d'] 25)) (.cells #[.slice none 0 0, .slice none 0 0] 25)
  have c1 := Lib.hid (fine _ _ x [y] _ (hu.below (below_alloc hW (.cells #[.slice A' y.sh.length c', .slice B' y.el.length d'] 25))) (isVals_one _ _ _ y (IsRow.below ⟨A', c', rfl, hc', hr'⟩ hW) (IsRow.below ⟨B', d', rfl, hd', hs'⟩ hW)))
  simp only [World.size_alloc] at c1
  have b0 := Lib.hid (blk_alloc (blk_alloc (blk_alloc (blk_new w (.cells #[.slice A x.sh.length c, .slice B x.el.length d] 25)) (.cells #[.slice A' y.sh.length c', .slice B' y.el.length d'] 25)) (.cells #[.slice none 0 0, .slice none 0 0] 25)) (.cells #[.slice A' y.sh.length c', .slice B' y.el.length d'] 25))
  have b1 := blk_alloc (blk_alloc (blk_new (w.alloc (.cells #[.slice A x.sh.length c, .slice B x.el.length d] 25)) (.cells #[.slice A' y.sh.length c', .slice B' y.el.length d'] 25)) (.cells #[.slice none 0 0, .slice none 0 0] 25)) (.cells #[.slice A' y.sh.length c', .slice B' y.el.length d'] 25)
  have b2 := blk_alloc (blk_new ((w.alloc (.cells #[.slice A x.sh.length c, .slice B x.el.length d] 25)).alloc (.cells #[.slice A' y.sh.length c', .slice B' y.el.length d'] 25)) (.cells #[.slice none 0 0, .slice none 0 0] 25)) (.cells #[.slice A' y.sh.length c', .slice B' y.el.length d'] 25)
  simp only [World.size_alloc] at b1 b2
  have B1 := Lib.hid b1
  have B2 := Lib.hid b2
  have HW := Lib.hid (below_alloc hW (.cells #[.slice A' y.sh.length c', .slice B' y.el.length d'] 25))
  have cM := Lib.hid (fun (W : World) (h : Below w.heap.size w W) => Many _ x W (hu.below h) (by omega))
  have cI := Lib.hid (fun (W : World) (h : Below w.heap.size w W) => Items A c x.sh W (Kd.C_below hr h) hc (by omega))
  have cP := Lib.hid (fun (W : World) (h : Below w.heap.size w W) => places _ y (itemsN x.sh) W (hG.below h) (ht.below h) (by omega))
  have cE := Lib.hid (fun (i : Int) (W : World) (h : Below w.heap.size w W) => Hq.Item _ x i W (hu.below h) (by omega) (by omega))
  have HYs := Lib.hid hr'
  clear hr hs hr' hs' hW hu ht hG b1 b2
  obtain ⟨n, hN⟩ : ∃ n, itemsN x.sh = n := ⟨_, rfl⟩
  obtain ⟨e0, he0⟩ : ∃ e0, fineF x [y] = e0 := ⟨_, rfl⟩
  obtain ⟨rs, hrs⟩ : ∃ rs, x.sh.drop 1 = rs := ⟨_, rfl⟩
  have hrl : rs.length ≤ 65535 := by rw [← hrs, List.length_drop]; omega
  obtain ⟨sh, hsh⟩ : ∃ sh, y.sh ++ rs = sh := ⟨_, rfl⟩
  have hsl : sh.length ≤ 131070 := by rw [← hsh, List.length_append]; omega
  obtain ⟨⟨l, e1⟩, hp⟩ : ∃ p, placesF y.el n = p := ⟨_, rfl⟩
  obtain ⟨⟨z, e2⟩, hz⟩ : ∃ q, sizeF sh = q := ⟨_, rfl⟩
  have hE : indexE x y = if e0 = 1 ∨ x.sh = [] then max e0 1 else if e1 ≠ 0 then e1 else e2 := by unfold indexE; rw [hrs, hsh, hN, he0, hp, hz]
  rw [he0] at c1
  rw [hN] at cM cI cP
  rw [hrs] at cI
  rw [hp] at cP
  have hl : l.length ≤ y.el.length := by have := placesF_len y.el n; rw [hp] at this; exact this
  have hfc := fineF_cases x y
  rw [he0] at hfc
  have HRS := Lib.hid hrs; have HSH := Lib.hid hsh
  clear hrs hsh
  have HN := Lib.hid hN; have HP := Lib.hid hp; have HZ := Lib.hid hz
  clear hN he0 hp hz
  by_cases h1 : e0 = 1 ∨ x.sh = []
  · have hm : indexE x y = max e0 1 := by rw [hE, if_pos h1]
    have hq : Hid (indexF x y = (V0, max e0 1)) := by show _ = _; unfold indexF; rw [hm, if_neg (by rcases hfc with h | h | h <;> subst h <;> decide)]
    clear hE hm
    have h2 : e0 = 1 ∨ (e0 = 0 ∧ x.sh = []) ∨ (e0 = 3 ∧ x.sh = []) := by
      rcases h1 with h | h
      · exact .inl h
      · rcases hfc with h3 | h3 | h3
        · exact .inr (.inl ⟨h3, h⟩)
        · exact .inl h3
        · exact .inr (.inr ⟨h3, h⟩)
    clear h1 hfc
    rcases h2 with rfl | ⟨rfl, h3⟩ | ⟨rfl, h3⟩
    · go_enter Tryz.func11, Tryz.ntmps11
      go_wp2_with fail
      refine c1.out.mono ?_
      rintro e w1 ⟨rfl, hb⟩
      have b0' := blk_below b0.out (hb.mono (by simp))
      have b2' := blk_below B2.out (hb.mono (by simp))
      have k0 : w1.cell? ⟨w.heap.size, 0, none⟩ = some (.slice A x.sh.length c) := blk_cell b0' 0
      have k2 : w1.cell? ⟨w.heap.size + 1 + 1, 0, none⟩ = some (.slice none 0 0) := blk_cell b2' 0
      have k3 : w1.cell? ⟨w.heap.size + 1 + 1, 1, none⟩ = some (.slice none 0 0) := blk_cell b2' 1
      have f2 := blk_frozen b2' 0
      have f3 := blk_frozen b2' 1
      have HB := Lib.hid (HW.out.trans (hb.mono (by have := HW.out.size; simp at this ⊢; omega)))
      clear hb b2' b0'
      go_wp2
      refine bodyPost_ret (v := .tuple #[.agg #[.slice none 0 0, .slice none 0 0], .int .i64 1]) (by simp [results, Tryz.results11, go_sem, k2, k3]) rfl ?_
      exact ⟨RV_err _ _ hq.out, (HB.out.setCell (p := ⟨w.heap.size + 1 + 1, 0, none⟩) (by simp; omega) _).setCell (p := ⟨w.heap.size + 1 + 1, 1, none⟩) (by simp; omega) _⟩
    · obtain ⟨xs, xe⟩ := x
      simp only at h3
      subst h3
      go_enter Tryz.func11, Tryz.ntmps11
      go_wp2_with fail
      refine c1.out.mono ?_
      rintro e w1 ⟨rfl, hb⟩
      have b0' := blk_below b0.out (hb.mono (by simp))
      have b2' := blk_below B2.out (hb.mono (by simp))
      have k0 : w1.cell? ⟨w.heap.size, 0, none⟩ = some (.slice A 0 c) := blk_cell b0' 0
      have k2 : w1.cell? ⟨w.heap.size + 1 + 1, 0, none⟩ = some (.slice none 0 0) := blk_cell b2' 0
      have k3 : w1.cell? ⟨w.heap.size + 1 + 1, 1, none⟩ = some (.slice none 0 0) := blk_cell b2' 1
      have f2 := blk_frozen b2' 0
      have f3 := blk_frozen b2' 1
      have HB := Lib.hid (HW.out.trans (hb.mono (by have := HW.out.size; simp at this ⊢; omega)))
      clear hb b2' b0'
      go_wp2
      refine bodyPost_ret (v := .tuple #[.agg #[.slice none 0 0, .slice none 0 0], .int .i64 (max 0 1)]) (by simp [results, Tryz.results11, go_sem, k2, k3]) rfl ?_
      exact ⟨RV_err _ _ hq.out, (HB.out.setCell (p := ⟨w.heap.size + 1 + 1, 0, none⟩) (by simp; omega) _).setCell (p := ⟨w.heap.size + 1 + 1, 1, none⟩) (by simp; omega) _⟩
    · obtain ⟨xs, xe⟩ := x
      simp only at h3
      subst h3
      go_enter Tryz.func11, Tryz.ntmps11
      go_wp2_with fail
      refine c1.out.mono ?_
      rintro e w1 ⟨rfl, hb⟩
      have b0' := blk_below b0.out (hb.mono (by simp))
      have b2' := blk_below B2.out (hb.mono (by simp))
      have k0 : w1.cell? ⟨w.heap.size, 0, none⟩ = some (.slice A 0 c) := blk_cell b0' 0
      have k2 : w1.cell? ⟨w.heap.size + 1 + 1, 0, none⟩ = some (.slice none 0 0) := blk_cell b2' 0
      have k3 : w1.cell? ⟨w.heap.size + 1 + 1, 1, none⟩ = some (.slice none 0 0) := blk_cell b2' 1
      have f2 := blk_frozen b2' 0
      have f3 := blk_frozen b2' 1
      have HB := Lib.hid (HW.out.trans (hb.mono (by have := HW.out.size; simp at this ⊢; omega)))
      clear hb b2' b0'
      go_wp2
      refine bodyPost_ret (v := .tuple #[.agg #[.slice none 0 0, .slice none 0 0], .int .i64 (max 3 1)]) (by simp [results, Tryz.results11, go_sem, k2, k3]) rfl ?_
      exact ⟨RV_err _ _ hq.out, (HB.out.setCell (p := ⟨w.heap.size + 1 + 1, 0, none⟩) (by simp; omega) _).setCell (p := ⟨w.heap.size + 1 + 1, 1, none⟩) (by simp; omega) _⟩
  · have hx : ¬ x.sh = [] := fun h => h1 (.inr h)
    have hpos : 0 < x.sh.length := List.length_pos_iff.2 hx
    have he : e0 = 0 ∨ e0 = 3 := by rcases hfc with h | h | h; exact .inl h; exact absurd (.inl h) h1; exact .inr h
    rw [if_neg h1] at hE
    have hpi : (x.sh.length : Int) ≠ 0 := by omega
    clear h1 hx hfc
    have stage : ∀ q : Int, (q = 0 ∨ q = 3) → e0 = q → Calls Tryz.prog 11 #[.agg #[.slice A x.sh.length c, .slice B x.el.length d], .agg #[.slice A' y.sh.length c', .slice B' y.el.length d']] w fun e w' => RV w.heap.size (indexF x y) e w' ∧ Below w.heap.size w w' := by
      intro q hq0 hqe
      subst hqe
      have hq1 : (e0 == 1) = false := by rcases hq0 with rfl | rfl <;> rfl
      have hq2 : decide (e0 = 1) = false := by rcases hq0 with rfl | rfl <;> rfl
      clear he hq0
      go_enter Tryz.func11, Tryz.ntmps11
      go_wp2_with fail
      refine c1.out.mono ?_
      rintro e w1 ⟨rfl, hb⟩
      have b0' := Lib.hid (blk_below b0.out (hb.mono (by simp)))
      have b1' := Lib.hid (blk_below B1.out (hb.mono (by simp)))
      have b2' := Lib.hid (blk_below B2.out (hb.mono (by simp)))
      have k0 : w1.cell? ⟨w.heap.size, 0, none⟩ = some (.slice A x.sh.length c) := blk_cell b0'.out 0
      have k01 : w1.cell? ⟨w.heap.size, 1, none⟩ = some (.slice B x.el.length d) := blk_cell b0'.out 1
      have k1 : w1.cell? ⟨w.heap.size + 1, 0, none⟩ = some (.slice A' y.sh.length c') := blk_cell b1'.out 0
      have k11 : w1.cell? ⟨w.heap.size + 1, 1, none⟩ = some (.slice B' y.el.length d') := blk_cell b1'.out 1
      have HB := Lib.hid (HW.out.trans (hb.mono (by have := HW.out.size; simp at this ⊢; omega)))
      clear hb
      go_wp2_with fail
      go_region_law (first
        | (go_simp
           go_at_call 31
           refine (cM.out _ (by first | exact HB.out.drew | exact HB.out)).mono ?_
           rintro e w6 ⟨rfl, hb6⟩
           have hb6' : Below w1.heap.size w1 w6 := (Below.refl _ w1).drew.trans (hb6.mono (Nat.le_refl _))
           have k06 := pw_cell_below hb6' k0
           have k016 := pw_cell_below hb6' k01
           have k16 := pw_cell_below hb6' k1
           have k116 := pw_cell_below hb6' k11
           have HB6 := Lib.hid hb6'
           clear hb6 hb6')
        | (go_simp
           go_at_call 30
           refine (cP.out _ (HB.out.trans (HB6.out.mono HB.out.size))).mono ?_
           rintro e w7 ⟨v7, rfl, ho7, hb7⟩
           obtain ⟨A7, d7, rfl, -⟩ := ho7.row
           have HB7 := Lib.hid (HB6.out.trans (hb7.mono HB6.out.size))
           have HO7 := Lib.hid (ho7.lower (Nat.le_trans HB.out.size HB6.out.size))
           clear hb7 ho7))
      all_goals
        have b07 := Lib.hid (blk_below b0'.out HB7.out)
        have b17 := Lib.hid (blk_below b1'.out HB7.out)
        have b27 := Lib.hid (blk_below b2'.out HB7.out)
        have HB8 := Lib.hid (HB.out.trans (HB7.out.mono HB.out.size))
        clear k0 k01 k1 k11 k06 k016 k16 k116
        by_cases h3 : e1 = 0
        · subst h3
          have k0 : w7.cell? ⟨w.heap.size, 0, none⟩ = some (.slice A x.sh.length c) := blk_cell b07.out 0
          go_wp2_with fail
          refine (cI.out _ HB8.out).mono ?_
          rintro e w8 ⟨v8, rfl, ho8, hb8⟩
          obtain ⟨A8, d8, rfl, hd8, hc8⟩ := ho8.row
          have HC8 := Lib.hid hc8
          have b08 := Lib.hid (blk_below b07.out hb8)
          have b18 := Lib.hid (blk_below b17.out hb8)
          have b28 := Lib.hid (blk_below b27.out hb8)
          have HO8 := Lib.hid (HO7.out.below hb8)
          have HB9 := Lib.hid (HB8.out.trans (hb8.mono HB8.out.size))
          have k1 : w8.cell? ⟨w.heap.size + 1, 0, none⟩ = some (.slice A' y.sh.length c') := blk_cell b18.out 0
          have cC := Lib.hid (Concat_int _ [y.sh, rs] _ (isRows_two w8 A' A8 c' d8 y.sh rs (Kd.C_below HYs.out HB9.out) hc' HC8.out hd8) (by simp; omega))
          have hfl : [y.sh, rs].flatten = sh := by simp [HSH.out]
          rw [hfl] at cC
          clear k0 hc8 ho8 hb8 hfl
          go_wp2_with fail
          refine cC.out.mono ?_
          rintro e w9 ⟨v9, rfl, ho9, hb9⟩
          obtain ⟨A9, d9, rfl, hd9, hc9⟩ := ho9.row
          have hb9' : Below w8.heap.size w8 w9 := (below_alloc (Below.refl w8.heap.size w8) _).trans (hb9.mono (by simp))
          have b09 := Lib.hid (blk_below b08.out hb9')
          have b19 := Lib.hid (blk_below b18.out hb9')
          have b29 := Lib.hid (blk_below b28.out hb9')
          have HO9 := Lib.hid (HO8.out.below hb9')
          have HS9 := Lib.hid (ho9.lower (base' := w.heap.size) (by have := HB9.out.size; simp; omega))
          have HB10 := Lib.hid (HB9.out.trans (hb9'.mono HB9.out.size))
          have cS := Lib.hid (fun (W : World) (h : Below w9.heap.size w9 W) => Size A9 d9 sh W (Kd.C_below hc9 h) hd9)
          rw [HZ.out] at cS
          clear k1 hc9 ho9 hb9 hb9' cC
          go_wp2_with fail
          refine (cS.out _ (below_alloc (Below.refl _ _) _)).mono ?_
          rintro e w10 ⟨rfl, hb10⟩
          have bx10 := Lib.hid (blk_below (blk_new w9 (.cells #[.slice A9 sh.length d9, .slice none 0 0] 25)) (hb10.mono (by simp)))
          have HB11 : Hid (Below w9.heap.size w9 w10) := (below_alloc (Below.refl w9.heap.size w9) _).trans (hb10.mono (by simp))
          clear hb10 cS
          by_cases h4 : e2 = 0
          · subst h4
            have hq : Hid (indexF x y = (⟨sh, picks x l⟩, 0)) := by
              show _ = _
              unfold indexF
              rw [hE, HRS.out, HSH.out, HN.out, HP.out]; rfl
            clear hE
            have HB12 := Lib.hid (HB10.out)
            have k9 : w10.cell? ⟨w9.heap.size, 0, none⟩ = some (.slice A9 sh.length d9) := blk_cell bx10.out 0
            go_wp2_with fail
            clear k9
            go_loopw [68] (fun i wr => ∃ (k : Nat) (lv : Value) (r : List ByteArray), k ≤ l.length ∧ i = .int .i64 k ∧ r.length ≤ k * 65535 ∧ Ow Kd.string 9 w9.heap.size lv r wr ∧ Hid (r = picks x (l.take k))
              ∧ Hid (wr.heap[w9.heap.size]? = some (.cells #[.slice A9 sh.length d9, lv] 25 (0, 0))) ∧ Hid (Below w9.heap.size w9 wr)) (fun i _ => l.length - (intOf i).toNat)
            case atStart => exact ⟨0, _, [], Nat.zero_le _, rfl, Nat.zero_le _, own_nilS _ _, rfl, bx10.out, HB11.out⟩
            case round =>
              obtain ⟨k, lv, r, hk, rfl, hrk, HO, hr, hbox, hb⟩ := hrel
              obtain ⟨Al, cl, rfl, -⟩ := HO.row
              by_cases hlt : k < l.length
              · have hd2 : decide (k < l.length) = true := by simpa using hlt
                obtain ⟨A7', d7', e7, hd7, hc7⟩ := (HO9.out.below hb.out).row
                injection e7 with e7a e7b e7c
                subst e7a
                obtain ⟨ad, hA, hcell⟩ := C_cell hc7 k hlt
                subst hA
                clear e7b e7c hc7 hd7
                have hnx := Lib.hid (picks_next x l k hlt)
                obtain ⟨j, hj⟩ : ∃ j, l[k] = j := ⟨_, rfl⟩
                rw [hj] at hcell hnx
                have hql := itemR_len x j
                have cX := Lib.hid (cE.out j wr (HB12.out.trans (hb.out.mono HB12.out.size)))
                obtain ⟨⟨y1, bb⟩, hy1⟩ : ∃ q, itemR x j = q := ⟨_, rfl⟩
                rw [hy1] at cX hnx hql
                have k0 : wr.cell? ⟨w.heap.size, 0, none⟩ = some (.slice A x.sh.length c) := blk_cell (blk_below b09.out hb.out) 0
                have k01 : wr.cell? ⟨w.heap.size, 1, none⟩ = some (.slice B x.el.length d) := blk_cell (blk_below b09.out hb.out) 1
                have hnx := Lib.hid hnx
                have hgl : w9.heap.size < wr.heap.size := blk_lt hbox.out
                clear hy1 hj
                go_wp2_with fail
                refine cX.out.mono ?_
                rintro e w11 ⟨⟨u', rfl, a1, b1, rfl, ha1, hb1⟩, hb11⟩
                obtain ⟨P1, p1, rfl, -⟩ := ha1.row
                obtain ⟨Q1, q1, rfl, hq1, hcq⟩ := hb1.row
                obtain ⟨m, hm⟩ : ∃ m, y1.el.length = m := ⟨_, rfl⟩
                rw [hm] at hcq hq1 hql
                have hbox11 := Lib.hid (blk_alloc (blk_below hbox.out hb11) (.cells #[.slice P1 y1.sh.length p1, .slice Q1 m q1] 25))
                have HO11 := Lib.hid ((HO.below hb11).below (below_alloc (Below.refl w11.heap.size w11) (.cells #[.slice P1 y1.sh.length p1, .slice Q1 m q1] 25)))
                have HC11 := Lib.hid (Kd.C_below hcq (below_alloc (Below.refl w11.heap.size w11) (.cells #[.slice P1 y1.sh.length p1, .slice Q1 m q1] 25)))
                have HBL := Lib.hid (below_alloc (hb.out.trans (hb11.mono hb.out.size)) (.cells #[.slice P1 y1.sh.length p1, .slice Q1 m q1] 25))
                have kg : (w11.alloc (.cells #[.slice P1 y1.sh.length p1, .slice Q1 m q1] 25)).cell? ⟨w9.heap.size, 1, none⟩ = some (.slice Al r.length cl) := blk_cell hbox11.out 1
                have hws := HBL.out.size
                rw [hm]
                have HM := Lib.hid hm
                clear ha1 hb1 hb11 hcq k0 k01 hm
                go_wp2_with (at_builtin; go_must (refine Kd.R_append_row Value.string ⟨#[]⟩ (w0 := w9) w9.heap.size rfl (.tmp 79) (.tmp 81) 23 9 (.string ⟨#[]⟩) 16 rfl Tryz.underlying23 info_string rfl (by omega) _ r y1.el Q1 m q1 (fun _ => True) rfl rfl (fun _ _ => trivial) HO11.out.out HC11.out HBL.out hws (by omega) ?_); intro v1 w12 hR hb3 hg3 _; obtain ⟨A12, c12, e12, -⟩ := (Ow.mk hR).row; subst e12; have HR12 := Lib.hid (Ow.mk hR); have HB12b := Lib.hid hb3; have hbox12 := Lib.hid (blk_grown hbox11.out hg3 (Kd.R_ne HO11.out.out hbox11.out (by decide))); have kf := blk_frozen hbox12.out 1; have kc : w12.cell? ⟨w9.heap.size, 1, none⟩ = some (.slice Al r.length cl) := blk_cell hbox12.out 1; clear hR hb3 hg3)
                go_roundw
                case rel =>
                  refine ⟨k + 1, _, r ++ y1.el, by omega, by go_num, by rw [List.length_append, HM.out]; omega, ?_, (show r ++ y1.el = _ from by rw [hr.out]; exact hnx.out), blk_set hbox12.out 1 _, HB12b.out.setCell (p := ⟨w9.heap.size, 1, none⟩) (Nat.le_refl _) _⟩
                  have := HR12.out.set hbox12.out (by decide) 1 (.slice A12 (r.length + y1.el.length) c12)
                  rw [List.length_append] at this
                  exact this
                case measure => simp [intOf]; omega
              · have hrr : r = picks x l := by
                  have := hr.out
                  rw [List.take_of_length_le (by omega)] at this
                  exact this
                have hd2 : decide (k < l.length) = false := by simpa using hlt
                have kg0 : wr.cell? ⟨w9.heap.size, 0, none⟩ = some (.slice A9 sh.length d9) := blk_cell hbox.out 0
                have kg1 : wr.cell? ⟨w9.heap.size, 1, none⟩ = some (.slice Al r.length cl) := blk_cell hbox.out 1
                have hbox2 := blk_below b29.out hb.out
                have k0 : wr.cell? ⟨w.heap.size + 1 + 1, 0, none⟩ = some (.slice none 0 0) := blk_cell hbox2 0
                have k1 : wr.cell? ⟨w.heap.size + 1 + 1, 1, none⟩ = some (.slice none 0 0) := blk_cell hbox2 1
                have f0 := blk_frozen hbox2 0
                have f1 := blk_frozen hbox2 1
                have hws4 : w.heap.size ≤ w9.heap.size := HB12.out.size
                have HF := Lib.hid (fin2 (W := w) (x := ⟨sh, r⟩) hbox2 (HS9.out.below hb.out) (HO.lower hws4) (HB12.out.trans (hb.out.mono HB12.out.size)) (by omega))
                have HRR := Lib.hid hrr
                clear hbox2 HO hb hr hrr
                go_wp2
                refine bodyPost_ret (v := .tuple #[.agg #[.slice A9 sh.length d9, .slice Al r.length cl], .int .i64 0]) (by simp [results, Tryz.results11, go_sem, k0, k1]) rfl ?_
                exact ⟨by rw [hq.out, ← HRR.out]; exact ⟨_, rfl, HF.out.1⟩, HF.out.2⟩
          · have k2 : w10.cell? ⟨w.heap.size + 1 + 1, 0, none⟩ = some (.slice none 0 0) := blk_cell (blk_below b29.out HB11.out) 0
            have k3 : w10.cell? ⟨w.heap.size + 1 + 1, 1, none⟩ = some (.slice none 0 0) := blk_cell (blk_below b29.out HB11.out) 1
            have f2 := blk_frozen (blk_below b29.out HB11.out) 0
            have f3 := blk_frozen (blk_below b29.out HB11.out) 1
            have h5 : (e2 == 0) = false := by simpa using h4
            have h6 : (e2 != 0) = true := by simpa using h4
            have hq : Hid (indexF x y = (V0, e2)) := by
              show _ = _
              have hh : indexE x y = e2 := by rw [hE]; rfl
              unfold indexF
              rw [hh, if_neg h4]
            clear h4 hE
            have HB12 := Lib.hid (HB10.out.trans (HB11.out.mono HB10.out.size))
            go_wp2
            refine bodyPost_ret (v := .tuple #[.agg #[.slice none 0 0, .slice none 0 0], .int .i64 e2]) (by simp [results, Tryz.results11, go_sem, k2, k3]) rfl ?_
            exact ⟨RV_err _ _ hq.out, (HB12.out.setCell (p := ⟨w.heap.size + 1 + 1, 0, none⟩) (by simp; omega) _).setCell (p := ⟨w.heap.size + 1 + 1, 1, none⟩) (by simp; omega) _⟩
        · have k2 : w7.cell? ⟨w.heap.size + 1 + 1, 0, none⟩ = some (.slice none 0 0) := blk_cell b27.out 0
          have k3 : w7.cell? ⟨w.heap.size + 1 + 1, 1, none⟩ = some (.slice none 0 0) := blk_cell b27.out 1
          have f2 := blk_frozen b27.out 0
          have f3 := blk_frozen b27.out 1
          have h5 : (e1 == 0) = false := by simpa using h3
          have h6 : (e1 != 0) = true := by simpa using h3
          have hq : Hid (indexF x y = (V0, e1)) := by
            show _ = _
            have hh : indexE x y = e1 := by rw [hE]; exact if_pos h3
            unfold indexF
            rw [hh, if_neg h3]
          clear h3 hE
          go_wp2
          refine bodyPost_ret (v := .tuple #[.agg #[.slice none 0 0, .slice none 0 0], .int .i64 e1]) (by simp [results, Tryz.results11, go_sem, k2, k3]) rfl ?_
          exact ⟨RV_err _ _ hq.out, (HB8.out.setCell (p := ⟨w.heap.size + 1 + 1, 0, none⟩) (by simp; omega) _).setCell (p := ⟨w.heap.size + 1 + 1, 1, none⟩) (by simp; omega) _⟩
    exact stage e0 he rfl
end Go.Proofs.YthjcnifdlfjieaaGreatDoor.Hr
