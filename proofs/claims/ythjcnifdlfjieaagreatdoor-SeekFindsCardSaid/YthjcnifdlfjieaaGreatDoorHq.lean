import Derived.Test.YthjcnifdlfjieaaGreatDoorHo
set_option linter.unusedVariables false
set_option linter.unusedSimpArgs false
namespace Go.Proofs.YthjcnifdlfjieaaGreatDoor.Hq
open Go.RowKit Go.Shelf Go.Proofs.YthjcnifdlfjieaaGreatDoorW.PrintWords Go.Proofs.YthjcnifdlfjieaaGreatDoor.Ha Go.Proofs.YthjcnifdlfjieaaGreatDoor.Hb Go.Proofs.YthjcnifdlfjieaaGreatDoor.Hc Go.Proofs.YthjcnifdlfjieaaGreatDoor.Hp Go.Proofs.YthjcnifdlfjieaaGreatDoor.Hd Go.Proofs.YthjcnifdlfjieaaGreatDoor.He Go.Proofs.YthjcnifdlfjieaaGreatDoor.Hf Go.Proofs.YthjcnifdlfjieaaGreatDoor.Hg Go.Proofs.YthjcnifdlfjieaaGreatDoor.Hh Go.Proofs.YthjcnifdlfjieaaGreatDoor.Hi Go.Proofs.YthjcnifdlfjieaaGreatDoor.Hm Go.Proofs.YthjcnifdlfjieaaGreatDoor.Hj Go.Proofs.YthjcnifdlfjieaaGreatDoor.Hk Go.Proofs.YthjcnifdlfjieaaGreatDoor.Hl Go.Proofs.YthjcnifdlfjieaaGreatDoor.Hn Go.Proofs.YthjcnifdlfjieaaGreatDoor.Ho

/-- A builtin whose run is known, as a step of a region that draws. -/
theorem step_run {P : Program} {ops : Array Oper} {o : Oper} {a : Act} {w : World} {K : Act → World → Prop} {Q : Exit → Act → World → Prop} {E : Prop}
    (hg : o.guard = none) (s x : Operand) (t t' : TypeId) (hop : o.op = Op.call { callee := Callee.builtin Builtin.copy, args := #[s, x], argTypes := #[t, t'] })
    (vs vx : Value) (hs : a.eval s = vs) (hx : a.eval x = vx) (v' : Value) (w' : World) (hr : (Builtin.copy_ #[t, t'] o.type #[vs, vx]).run P w = .ok v' w')
    (hK : K (a.put o.dst v') w') : if Region.wanted o (yielded ops a.tmps) = true then Oper.wp P o a w K Q else E := by
  have hw : Region.wanted o (yielded ops a.tmps) = true := by simp [Region.wanted, hg]
  rw [if_pos hw]
  unfold Oper.wp execOp
  simp only [hop, resolve, invoke, builtin, Sem.run_bind, Sem.run_pure, Result.andThen_ok, List.map_toArray, List.map_cons, List.map_nil, hs, hx, hr]
  exact hK
/-- copy(v, ys), v a row of strings of one's own. -/
theorem copy_run {P : Program} (W : World) (base t t' e ty : TypeId) (ht : P.underlying t = some (.slice e)) (hinfo : (P.info? e).map (·.size) = some 1)
    (v : Value) (xs ys : List ByteArray) (A : Option Addr) (m c : Nat) (HO : Ow Kd.string e base v xs W) (HR : Kd.C Kd.string W A m ys) :
    ∃ w1, (Builtin.copy_ #[t, t'] ty #[v, .slice A m c]).run P W = .ok (goInt ((min m xs.length : Nat) : Int)) w1 ∧ Ow Kd.string e base v (ys.take (min m xs.length) ++ xs.drop (min m xs.length)) w1 ∧ W.grownBy w1 v.ownBlock := by
  have hR := Kd.reads_of_C (d := (⟨#[]⟩ : ByteArray)) HR
  have hm : ys.length = m := hR.1
  have hown := Kd.own_of_R HO.out
  rcases Nat.eq_zero_or_pos (min m xs.length) with h0 | hp
  · obtain ⟨A', c', hv⟩ := own_slice hown
    refine ⟨W, ?_, by rw [h0, List.take_zero, List.drop_zero, List.nil_append]; exact HO, World.grownBy.refl W _⟩
    rw [h0, hv]
    exact run_copy_none W t t' ty e A' A xs.length c' m c ht hinfo h0
  · obtain ⟨ad, hA, hc⟩ := hR.2.2 (by omega)
    rcases hown.2 with ⟨_, hx0⟩ | ⟨g, cap, cur, hv, hb, hh, hnc, hcm, hcs, htake⟩
    · omega
    have hcs1 : cur.size = cap := by omega
    have hsrc : ∀ j u, (encs Value.string (ys.take (min m xs.length)))[j]? = some u → W.cell? (ad.add j) = some u := by
      intro j u hu
      have hj : j < (ys.take (min m xs.length)).length := by
        rcases Nat.lt_or_ge j (ys.take (min m xs.length)).length with h | h
        · exact h
        · rw [List.getElem?_eq_none (by rw [encs_length]; exact h)] at hu
          cases hu
      have hjm : j < min m xs.length := by rw [List.length_take] at hj; omega
      rw [encs_get (d := (⟨#[]⟩ : ByteArray)) _ j hj] at hu
      rw [hc j (by omega), ← hu]
      simp [List.getD_eq_getElem?_getD, hjm]
    have hkl : (encs Value.string (ys.take (min m xs.length))).length = min m xs.length := by rw [encs_length, List.length_take]; omega
    have hr := run_copy_cells (P := P) W t t' ty e g 0 xs.length cap ad m c (encs Value.string (ys.take (min m xs.length))) ht hinfo (by rw [hkl]) hsrc
      (fun j hj => by rw [cell_of_row W g _ cur e (0, 0) hh]; simp; omega) (fun j _ => blk_frozen hh _) (by intro u hu; simp only [encs, List.mem_map] at hu; obtain ⟨q, _, rfl⟩ := hu; rfl)
    obtain ⟨cur', h3, h4, h5⟩ := setCells_row (encs Value.string (ys.take (min m xs.length))) 0 W cur hh (by rw [hkl]; omega)
    obtain ⟨s1, s2, s3, s4⟩ := setCells_same g (encs Value.string (ys.take (min m xs.length))) 0 W
    refine ⟨_, by rw [hv, hA, hr, hkl], ⟨Kd.R_of_own ?_ HO.out.1⟩, ⟨s1, s2, s3, by rw [s4]; exact Nat.le_refl _, fun k _ hk => setCells_far _ _ k (fun he => hk (by rw [hv, he]; simp [Value.ownBlock]))⟩⟩
    have hln : (ys.take (min m xs.length) ++ xs.drop (min m xs.length)).length = xs.length := by
      rw [List.length_append, List.length_take, List.length_drop]
      omega
    rw [hln]
    refine ⟨by rw [encs_length, hln, Nat.mul_one], .inr ⟨g, cap, cur', hv, hb, h3, hnc, hcm, by rw [h4, hcs], ?_⟩⟩
    rw [h5, List.take_zero, List.nil_append, hkl, Nat.zero_add, encs_append, Nat.mul_one]
    rw [List.take_append, hkl, List.take_of_length_le (by rw [hkl]; omega)]
    congr 1
    have htk : cur.toList.take xs.length = encs Value.string xs := by rw [← htake, Nat.mul_one]
    have hd : encs Value.string (xs.drop (min m xs.length)) = (encs Value.string xs).drop (min m xs.length) := by simp [encs, List.map_drop]
    rw [hd, ← htk, List.drop_take]

def itemSz (x : V) : Nat := x.el.length / (itemsN x.sh).toNat
def itemF (x : V) (i : Int) : V := ⟨x.sh.drop 1, (x.el.drop (i.toNat * itemSz x)).take (itemSz x)⟩
def itemOk (x : V) (i : Int) : Bool := mayV x && !(decide (i < 0)) && decide (i < itemsN x.sh)
def itemR (x : V) (i : Int) : V × Bool := if itemOk x i = true then (itemF x i, true) else (V0, false)
/-- What a call of two results, an array and a truth value, comes to. -/
def RB (base : Nat) (r : V × Bool) (e : Ending) (w : World) : Prop := ∃ u, e = .returned (.tuple #[u, .bool r.2]) ∧ OwnVal base u r.1 w
theorem RB_no (base : Nat) (w : World) {r : V × Bool} (h : r = (V0, false)) : RB base r (.returned (.tuple #[.agg #[.slice none 0 0, .slice none 0 0], .bool false])) w := by
  subst h
  exact ⟨_, rfl, _, _, rfl, own_nilI _ _, own_nilS _ _⟩

set_option maxRecDepth 100000 in
set_option maxHeartbeats 4000000 in
theorem Item (u : Value) (x : V) (i : Int) (w : World) (hu : IsVal w u x) (hn : x.sh.length ≤ 4294967296) (hn2 : x.el.length ≤ 4294967295) :
    Calls Tryz.prog 34 #[u, .int .i64 i] w fun e w' => RB w.heap.size (itemR x i) e w' ∧ Below w.heap.size w w' := by
  obtain ⟨a, b, rfl, ⟨A, c, rfl, hc, hr⟩, ⟨B, d, rfl, hd, hs⟩⟩ := id hu
  have hW := below_alloc (below_alloc (Below.refl w.heap.size w) (.cells #[.slice A x.sh.length c, .slice B x.el.length d] 25)) (.cells #[.slice none 0 0, .slice none 0 0] 25)
  have c1 := Lib.hid (Items A c x.sh _ (Kd.C_below hr hW) hc hn)
  have c2 := Lib.hid (fun (W : World) (h : Below w.heap.size w W) => MayV _ x W (hu.below h))
  have b0 := Lib.hid (blk_alloc (blk_new w (.cells #[.slice A x.sh.length c, .slice B x.el.length d] 25)) (.cells #[.slice none 0 0, .slice none 0 0] 25))
  have b1 := blk_new (w.alloc (.cells #[.slice A x.sh.length c, .slice B x.el.length d] 25)) (.cells #[.slice none 0 0, .slice none 0 0] 25)
  simp only [World.size_alloc] at b1
  have b1 := Lib.hid b1
  have HW := Lib.hid hW
  have HS := Lib.hid hs
  clear hu hs hr hW
  obtain ⟨n, hN⟩ : ∃ n, itemsN x.sh = n := ⟨_, rfl⟩
  rw [hN] at c1
  have HN := Lib.hid hN
  by_cases hok : itemOk x i = true
  · have hq : Hid (itemR x i = (itemF x i, true)) := by show _ = _; unfold itemR; rw [if_pos hok]
    have hm : mayV x = true ∧ 0 ≤ i ∧ i < n := by
      unfold itemOk at hok
      rw [hN] at hok
      simp at hok
      exact ⟨hok.1.1, hok.1.2, hok.2⟩
    obtain ⟨hm, hi0, hin⟩ := hm
    obtain ⟨j, rfl⟩ := Int.eq_ofNat_of_zero_le hi0
    obtain ⟨m, rfl⟩ := Int.eq_ofNat_of_zero_le (show 0 ≤ n by omega)
    have hjm : j < m := by omega
    obtain ⟨z, hz⟩ : ∃ z, x.el.length / m = z := ⟨_, rfl⟩
    have hzz : itemSz x = z := by unfold itemSz; rw [hN]; simpa using hz
    have hqo : Int.tdiv (x.el.length : Int) (m : Int) = (z : Int) := by rw [← hz]; rfl
    have hzm : m * z ≤ x.el.length := by rw [← hz]; exact Nat.mul_div_le _ _
    have hjz : (j + 1) * z ≤ x.el.length := Nat.le_trans (Nat.mul_le_mul_right _ hjm) hzm
    obtain ⟨p, hp⟩ : ∃ p, j * z = p := ⟨_, rfl⟩
    have hpz : p + z ≤ x.el.length := by rw [← hp]; rw [Nat.succ_mul] at hjz; exact hjz
    have hmul : IntKind.i64.wrap ((j : Int) * (z : Int)) = (p : Int) := by rw [← hp, IntKind.wrap_i64, ← Int.natCast_mul, hp]; omega
    have hne : (m : Int) ≠ 0 := by omega
    have hz48 : z ≤ 4294967295 := by omega
    have HP := Lib.hid (show itemF x (j : Int) = ⟨x.sh.drop 1, (x.el.drop p).take z⟩ from by unfold itemF; rw [hzz, Int.toNat_natCast, hp])
    clear hok hN hzm hjz hp hz hzz
    go_enter Tryz.func34, Tryz.ntmps34
    go_wp2_with fail
    refine c1.out.mono ?_
    rintro e w1 ⟨v, rfl, ho, hb⟩
    obtain ⟨A1, d1, rfl, -⟩ := ho.row
    have HB := Lib.hid (HW.out.trans (hb.mono HW.out.size))
    have b0' := Lib.hid (blk_below b0.out hb)
    have b1' := Lib.hid (blk_below b1.out (hb.mono (by simp)))
    have k0 : w1.cell? ⟨w.heap.size, 0, none⟩ = some (.slice A x.sh.length c) := blk_cell b0'.out 0
    have k1 : w1.cell? ⟨w.heap.size, 1, none⟩ = some (.slice B x.el.length d) := blk_cell b0'.out 1
    have c3 := Lib.hid (c2.out w1 HB.out)
    have HO := Lib.hid (ho.lower HW.out.size)
    clear ho hb c2
    rw [hm] at c3
    clear hm
    go_wp2_with fail
    refine c3.out.mono ?_
    rintro e w2 ⟨rfl, hb⟩
    have b2' := Lib.hid (blk_below b1'.out hb)
    have b02 := Lib.hid (blk_below b0'.out hb)
    have k2 : w2.cell? ⟨w.heap.size, 1, none⟩ = some (.slice B x.el.length d) := blk_cell b02.out 1
    have HB2 := Lib.hid (HB.out.trans (hb.mono HB.out.size))
    have HO2 := Lib.hid (HO.out.below hb)
    clear hb
    go_wp2_with (at_make; go_must (refine Kd.R_make Kd.string (w0 := w) w.heap.size 9 rfl rfl 23 (.tmp 35) (.tmp 35) rfl (z : Int) rfl rfl Tryz.underlying23 (.string ⟨#[]⟩) 16 info_string rfl (by decide) (by decide) ⟨#[]⟩ (ok := fun _ => True) (okp := fun _ => False) rfl (fun _ _ => trivial) trivial (by omega) (by omega) HB2.out HB2.out.size ?_); intro v1 w3 hR hb3 hg3 hob; obtain ⟨A3, c3, e3, -⟩ := (Ow.mk hR).row; rw [List.length_replicate, Int.toNat_natCast] at e3; subst e3; have HR3 := Lib.hid (Ow.mk hR); have HB3 := Lib.hid hb3; have HG3 := Lib.hid hg3; clear hR hb3 hg3)
    have HBB : Hid (Below w2.heap.size w2 w3) := ⟨HG3.out.os, HG3.out.tape, HG3.out.output, HG3.out.size, fun k hk => HG3.out.block k hk (by simp)⟩
    have k4 := pw_cell_below (below_alloc (Below.refl w3.heap.size w3) (.cells #[.slice A1 (x.sh.length - 1) d1, .slice A3 z c3] 25)) (pw_cell_below HBB.out k2)
    have bx := Lib.hid (blk_new w3 (.cells #[.slice A1 (x.sh.length - 1) d1, .slice A3 z c3] 25))
    have HB4 := Lib.hid (below_alloc HB3.out (.cells #[.slice A1 (x.sh.length - 1) d1, .slice A3 z c3] 25))
    have b14 := Lib.hid (blk_alloc (blk_below b2'.out HBB.out) (.cells #[.slice A1 (x.sh.length - 1) d1, .slice A3 z c3] 25))
    have HO4 := Lib.hid ((HO2.out.below HBB.out).below (below_alloc (Below.refl w3.heap.size w3) (.cells #[.slice A1 (x.sh.length - 1) d1, .slice A3 z c3] 25)))
    have HR4 := Lib.hid (HR3.out.below (below_alloc (Below.refl w3.heap.size w3) (.cells #[.slice A1 (x.sh.length - 1) d1, .slice A3 z c3] 25)))
    have hw3 : w.heap.size + 1 < w3.heap.size := blk_lt (blk_below b2'.out HBB.out)
    obtain ⟨w4, hw4⟩ : ∃ w4, w3.alloc (.cells #[.slice A1 (x.sh.length - 1) d1, .slice A3 z c3] 25) = w4 := ⟨_, rfl⟩
    have bx := bx.out; have HB4 := HB4.out; have b14 := b14.out; have HO4 := HO4.out; have HR4 := HR4.out
    rw [hw4] at k4 bx HB4 b14 HO4 HR4
    have hz4 : w4.heap.size = w3.heap.size + 1 := by rw [← hw4]; simp
    have bx := Lib.hid bx; have HB4 := Lib.hid HB4; have b14 := Lib.hid b14; have HO4 := Lib.hid HO4; have HR4 := Lib.hid HR4
    rw [hw4]
    have k5 : w4.cell? ⟨w3.heap.size, 1, none⟩ = some (.slice A3 z c3) := blk_cell bx.out 1
    obtain ⟨i0, hi0, hz0, hsz, hby⟩ := info_parts (info_string)
    have hcut := cut_from (P := Tryz.prog) 23 9 .i64 Tryz.underlying23 hi0 1 hsz B x.el.length d (p : Int) (by omega) (by omega)
    have hC2 := Kd.C_drop (m := p) (Kd.C_below HS.out HB4.out) (by omega) hd
    have et : ((p : Nat) : Int).toNat = p := Int.toNat_natCast p
    rw [et] at hcut
    have esz : Kd.string.sz = 1 := rfl
    rw [esz] at hC2
    obtain ⟨B2, hB2⟩ : ∃ B2, B2 = (if d = p then B else B.map (·.add (p * 1))) := ⟨_, rfl⟩
    obtain ⟨q, hq2⟩ : ∃ q, x.el.length - p = q := ⟨_, rfl⟩
    rw [← hB2, List.length_drop, hq2] at hC2
    rw [← hB2, hq2] at hcut
    obtain ⟨w7, hr7, HO7, hg7⟩ := copy_run (P := Tryz.prog) w4.drew w.heap.size 23 23 9 3 Tryz.underlying23 (by rw [hi0]; simp [hsz]) _ _ _ B2 q (d - p) ⟨Kd.R_drew HR4.out.out⟩ hC2
    have hdr : (List.replicate z (⟨#[]⟩ : ByteArray)).drop z = [] := List.drop_of_length_le (by simp)
    rw [List.length_replicate, Int.toNat_natCast, show min q z = z by omega, hdr, List.append_nil] at HO7
    rw [List.length_replicate, Int.toNat_natCast, show min q z = z by omega] at hr7
    have HR7 := Lib.hid hr7; have HO8 := Lib.hid HO7; have HG7 := Lib.hid hg7
    clear hr7 HO7 hg7 hC2 hB2 hw4 et esz hi0 hz0 hsz hby
    have bx7 := blk_grown (blk_drew bx.out) HG7.out (Kd.R_ne HR4.out.out bx.out (by decide))
    have b17 := blk_grown (blk_drew b14.out) HG7.out (Kd.R_ne HR4.out.out b14.out (by decide))
    have HO9 := Ow.mk (Kd.R_over' (Kd.R_drew HO4.out.out) (Kd.R_typed (Kd.R_drew HR4.out.out)) (by decide) HG7.out)
    have kx0 : w7.cell? ⟨w3.heap.size, 0, none⟩ = some (.slice A1 (x.sh.length - 1) d1) := blk_cell bx7 0
    have kx1 : w7.cell? ⟨w3.heap.size, 1, none⟩ = some (.slice A3 z c3) := blk_cell bx7 1
    have ky0 : w7.cell? ⟨w.heap.size + 1, 0, none⟩ = some (.slice none 0 0) := blk_cell b17 0
    have ky1 : w7.cell? ⟨w.heap.size + 1, 1, none⟩ = some (.slice none 0 0) := blk_cell b17 1
    have f0 := blk_frozen b17 0
    have f1 := blk_frozen b17 1
    have HB7 : Below w.heap.size w w7 := (HB4.out.drew).grown HG7.out (by show w.heap.size ≤ w4.heap.size; omega) (fun k hk => own_base (Kd.own_of_R HR4.out.out) k hk)
    have HF := Lib.hid (fin2 (W := w) (x := ⟨x.sh.drop 1, (x.el.drop p).take z⟩) b17 HO9 HO8.out HB7 (by omega))
    clear HB7 HO9 b17 bx7 hdr hq2
    go_wp2_with fail
    go_region_law (refine step_run rfl (.tmp 39) (.tmp 45) 23 23 rfl (.slice A3 z c3) (.slice B2 q (d - p)) rfl rfl _ _ HR7.out ?_)
    all_goals
      go_wp2
      refine bodyPost_ret (v := .tuple #[.agg #[.slice A1 (x.sh.length - 1) d1, .slice A3 z c3], .bool true]) (by simp [results, Tryz.results34, go_sem, ky0, ky1]) rfl ?_
      exact ⟨by rw [hq.out, HP.out]; exact ⟨_, rfl, by have := HF.out.1; rw [List.length_drop] at this; exact this⟩, by have := HF.out.2; rw [List.length_drop] at this; exact this⟩
  · have hq : Hid (itemR x i = (V0, false)) := by show _ = _; unfold itemR; rw [if_neg hok]
    have hok2 : mayV x = false ∨ (mayV x = true ∧ i < 0) ∨ (mayV x = true ∧ ¬ i < 0 ∧ n ≤ i) := by
      unfold itemOk at hok
      rw [hN] at hok
      cases hm : mayV x with
      | false => exact .inl rfl
      | true =>
        right
        by_cases hi : i < 0
        · exact .inl ⟨rfl, hi⟩
        · right
          refine ⟨rfl, hi, ?_⟩
          simp [hm, hi] at hok
          omega
    clear hok hN
    go_enter Tryz.func34, Tryz.ntmps34
    go_wp2_with fail
    refine c1.out.mono ?_
    rintro e w1 ⟨v, rfl, ho, hb⟩
    obtain ⟨A1, d1, rfl, -⟩ := ho.row
    have HB := Lib.hid (HW.out.trans (hb.mono HW.out.size))
    have b0' := Lib.hid (blk_below b0.out hb)
    have b1' := Lib.hid (blk_below b1.out (hb.mono (by simp)))
    have k0 : w1.cell? ⟨w.heap.size, 0, none⟩ = some (.slice A x.sh.length c) := blk_cell b0'.out 0
    have k1 : w1.cell? ⟨w.heap.size, 1, none⟩ = some (.slice B x.el.length d) := blk_cell b0'.out 1
    have c3 := Lib.hid (c2.out w1 HB.out)
    clear ho hb c2
    rcases hok2 with h1 | ⟨h1, h2⟩ | ⟨h1, h2, h3⟩
    all_goals
      rw [h1] at c3
      clear h1
      go_wp2_with fail
      refine c3.out.mono ?_
      rintro e w2 ⟨rfl, hb⟩
      have b2' := blk_below b1'.out hb
      have k2 : w2.cell? ⟨w.heap.size + 1, 0, none⟩ = some (.slice none 0 0) := blk_cell b2' 0
      have k3 : w2.cell? ⟨w.heap.size + 1, 1, none⟩ = some (.slice none 0 0) := blk_cell b2' 1
      have f2 := blk_frozen b2' 0
      have f3 := blk_frozen b2' 1
      have HB2 := Lib.hid (HB.out.trans (hb.mono HB.out.size))
      clear hb b2'
      go_wp2
      refine bodyPost_ret (v := .tuple #[.agg #[.slice none 0 0, .slice none 0 0], .bool false]) (by simp [results, Tryz.results34, go_sem, k2, k3]) rfl ?_
      exact ⟨RB_no _ _ hq.out, (HB2.out.setCell (p := ⟨w.heap.size + 1, 0, none⟩) (by simp) _).setCell (p := ⟨w.heap.size + 1, 1, none⟩) (by simp) _⟩
end Go.Proofs.YthjcnifdlfjieaaGreatDoor.Hq
