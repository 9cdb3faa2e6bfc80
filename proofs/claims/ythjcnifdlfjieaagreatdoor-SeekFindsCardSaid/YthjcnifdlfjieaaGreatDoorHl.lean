import Derived.Test.YthjcnifdlfjieaaGreatDoorHk
import Derived.Deep.RegionLaw
import Derived.Deep.RegionHeld3
set_option linter.unusedVariables false
set_option linter.unusedSimpArgs false
namespace Go.Proofs.YthjcnifdlfjieaaGreatDoor.Hl
open Go.RowKit Go.Shelf Go.Proofs.YthjcnifdlfjieaaGreatDoorW.PrintWords Go.Proofs.YthjcnifdlfjieaaGreatDoor.Ha Go.Proofs.YthjcnifdlfjieaaGreatDoor.Hb Go.Proofs.YthjcnifdlfjieaaGreatDoor.Hc Go.Proofs.YthjcnifdlfjieaaGreatDoor.Hp Go.Proofs.YthjcnifdlfjieaaGreatDoor.Hd Go.Proofs.YthjcnifdlfjieaaGreatDoor.He Go.Proofs.YthjcnifdlfjieaaGreatDoor.Hf Go.Proofs.YthjcnifdlfjieaaGreatDoor.Hg Go.Proofs.YthjcnifdlfjieaaGreatDoor.Hh Go.Proofs.YthjcnifdlfjieaaGreatDoor.Hi Go.Proofs.YthjcnifdlfjieaaGreatDoor.Hm Go.Proofs.YthjcnifdlfjieaaGreatDoor.Hj Go.Proofs.YthjcnifdlfjieaaGreatDoor.Hk
attribute [local go_sem] Oper.semAt_some

/-- Where s stands first in l, from place m on. -/
noncomputable def fst (l : List ByteArray) (m : Nat) (s : ByteArray) : Int := idxOf (fun x => tt (x = s)) (l.drop m) m
noncomputable def firstM (l : List ByteArray) (m : Nat) (s : ByteArray) : Option Value := if fst l m s < 0 then none else some (.int .i64 (fst l m s))
noncomputable def place (l : List ByteArray) (s : ByteArray) : Int := if fst l 0 s < 0 then l.length else fst l 0 s
noncomputable def findF (x y : V) : V × Int := if fineF x [y] = 0 then (⟨y.sh, y.el.map (fun s => ofF (place x.el s))⟩, 0) else (V0, fineF x [y])
theorem firstM_end (l : List ByteArray) : firstM l l.length = fun _ => none := by
  funext s; unfold firstM fst; rw [idxOf_nil _ _ _ (by omega)]; rfl
theorem firstM_step (l : List ByteArray) (m : Nat) (h : m < l.length) : upd (firstM l (m + 1)) l[m] (.int .i64 (m : Int)) = firstM l m := by
  funext t
  unfold upd firstM fst
  by_cases ht : t = l[m]
  · rw [if_pos ht, idxOf_yes _ _ _ h (tt_yes ht.symm), if_neg (by omega)]
  · rw [if_neg ht, idxOf_no _ _ _ h (tt_no fun e => ht e.symm)]
/-- The map behind some rounds. -/
noncomputable def after (l : List ByteArray) (pre : List (Fin l.length)) : ByteArray → Option Value := pre.foldl (fun f x => upd f l[x.1] (.int .i64 (x.1 : Int))) (fun _ => none)
theorem after_snoc (l : List ByteArray) (pre : List (Fin l.length)) (x : Fin l.length) : after l (pre ++ [x]) = upd (after l pre) l[x.1] (.int .i64 (x.1 : Int)) := by simp [after]
theorem after_down (l : List ByteArray) : ∀ k, k ≤ l.length → after l (down l.length k) = firstM l (l.length - k) := by
  intro k
  induction k with
  | zero => intro _; rw [Nat.sub_zero, firstM_end]; rfl
  | succ k ih =>
    intro h
    rw [← down_succ _ _ (by omega), after_snoc, ih (by omega)]
    have e : l.length - k = (l.length - 1 - k) + 1 := by omega
    rw [e, firstM_step _ _ (by omega)]
    congr 1; omega
theorem fst_len (l : List ByteArray) (m : Nat) (s : ByteArray) : ∀ n, n ≤ l.length → -1 ≤ idxOf (fun x => tt (x = s)) (l.drop (l.length - n)) (l.length - n) ∧ idxOf (fun x => tt (x = s)) (l.drop (l.length - n)) (l.length - n) < l.length ∨ l.length = 0 := by
  intro n
  induction n with
  | zero => intro _; by_cases h0 : l.length = 0; exact .inr h0; left; rw [idxOf_nil _ _ _ (by omega)]; omega
  | succ n ih =>
    intro h
    rcases ih (by omega) with h1 | h1
    · left
      have hm : l.length - (n + 1) < l.length := by omega
      by_cases hp : tt (l[l.length - (n + 1)] = s) = true
      · rw [idxOf_yes _ _ _ hm hp]; omega
      · rw [idxOf_no _ _ _ hm (by simpa using hp)]
        have e : l.length - (n + 1) + 1 = l.length - n := by omega
        rw [e]; exact h1
    · exact .inr h1
theorem place_range (l : List ByteArray) (s : ByteArray) : 0 ≤ place l s ∧ place l s ≤ l.length := by
  unfold place
  by_cases h : fst l 0 s < 0
  · rw [if_pos h]; omega
  · rw [if_neg h]
    rcases fst_len l 0 s l.length (Nat.le_refl _) with h1 | h1
    · rw [Nat.sub_self] at h1
      exact ⟨by omega, by unfold fst; omega⟩
    · have : l = [] := List.eq_nil_of_length_eq_zero h1
      subst this
      exact absurd (by simp [fst, idxOf]) h

theorem isVals_one (W : World) (a b : Value) (y : V) (ha : IsRow (Kd.int .i64) W a y.sh) (hb : IsRow Kd.string W b y.el) : IsVals (W.alloc (.cells #[a, b] 25)) (.slice (some ⟨W.heap.size, 0, none⟩) 1 1) [y] := by
  refine ⟨some ⟨W.heap.size, 0, none⟩, 1, rfl, Nat.le_refl _, by simp, fun _ => ⟨_, rfl, fun j x hj => ?_⟩⟩
  have hW := below_alloc (Below.refl W.heap.size W) (.cells #[a, b] 25)
  have h0 : j = 0 := by
    have := (List.getElem?_eq_some_iff.1 hj).1
    simp at this; omega
  subst h0
  obtain rfl : y = x := by simpa using hj
  exact ⟨a, b, blk_cell (blk_new W _) 0, blk_cell (blk_new W _) 1, ha.below hW, hb.below hW⟩
theorem rf2 {F : Fence} {n : Nat} {P : Program} {α : Type} {g : Operand} {assign body : Code} {Q : Exit → Act → World → Prop} {a : Act} {w : World} (p1 p2 d1 d2 : Nat) (v1 v2 : α → Value)
    (hro : F.round = none) (h1 : 1 ≤ n) {gf : Nat} {lb : Array Value} (hg : a.eval g = .func (.func gf) #[] lb) (hFg : F.fn gf) (eg : ∀ args w, (callFunc gf args).run P w = .ok (.enter gf args) w)
    {Kp : World → World → Prop} {S Sp : List α → Prop} {N : Nat} {w0 : World} (hseq : SeqStopsK F (n - 1) P gf lb (fun x => #[v1 x, v2 x]) Kp S Sp N w0)
    (hKt : ∀ {A B C : World}, Kp A B → Kp B C → Kp A C) (hKb : ∀ (W : World) (l : Nat) (o o' : Obj), w.heap.size ≤ l → W.heap[l]? = some o → o.isCells = false → o.isWalk = false → Kp W (W.putObj l o')) (hb0 : Below w0.heap.size w0 w)
    (I : List α → World → Prop) (Ix : Code → List α → World → Prop) (hI : OwnFrom w.heap.size I) (hIx : ∀ c, OwnFrom w.heap.size (Ix c)) (h0 : I [] w)
    (hassign : ∀ (l : Nat) (x : α) (W : World) (K : Act → World → Prop), K { tmps := (((a.tmps.setIfInBounds p1 (v1 x)).setIfInBounds p2 (v2 x)).setIfInBounds d1 (v1 x)).setIfInBounds d2 (v2 x), defers := [] } W →
      assign.wpIn (F.inRound l) (n - 1 - 1) P (Exit.then K (fun _ _ _ => False)) { tmps := (a.tmps.setIfInBounds p1 (v1 x)).setIfInBounds p2 (v2 x), defers := [] } W)
    (hbody : ∀ (l : Nat) (pre : List α) (x : α) (W : World), I pre W → pre.length < N → body.wpIn (F.inRound l) (n - 1 - 1) P (ownPostG w.heap.size Kp I Ix (pre ++ [x]) W) { tmps := (((a.tmps.setIfInBounds p1 (v1 x)).setIfInBounds p2 (v2 x)).setIfInBounds d1 (v1 x)).setIfInBounds d2 (v2 x), defers := [] } W)
    (hdone : ∀ (D : Nat) (xs : List α) (W : World), w.heap.size ≤ D → S xs → I xs W → W.heap[D]? = some (.deferred (some [])) → Q .normal { a with defers := { target := .collected D, args := #[] } :: a.defers } W)
    (hstop : ∀ (D : Nat) (c : Code) (pre : List α) (W : World), w.heap.size ≤ D → Sp pre → Ix c pre W → W.heap[D]? = some (.deferred (some [])) → c.wpIn F n P Q { a with defers := { target := .collected D, args := #[] } :: a.defers } W) :
    (Code.rangeFunc g #[p1, p2] assign body).wpIn F n P Q a w :=
  wpIn_rangeFunc_ownG hro h1 hg hFg eg hseq hKt hKb hb0 (fun _ => rfl) I Ix hI hIx h0 _ (fun l x W K hK => by simpa using hassign l x W K hK) hbody hdone hstop
theorem KpB_b {w0 w : World} {Bs : Nat} (h0 : w0.heap.size ≤ w.heap.size) (hB : Bs < w.heap.size) (W : World) (l : Nat) (o o' : Obj) (hl : w.heap.size ≤ l) (h : W.heap[l]? = some o) (h1 : o.isCells = false) (h2 : o.isWalk = false) : KpB w0.heap.size Bs W (W.putObj l o') :=
  ⟨belowK_b h0 W l o o' hl h h1 h2, World.putObj_heap_other (by omega)⟩
/-- A map that a loop's rounds fill; nothing else turns. -/
def Fills (k : TypeId) (l : List ByteArray) (m : Nat) (w0 w : World) (pre : List (Fin l.length)) (W : World) : Prop := SMap Tryz.prog k W m pre.length (after l pre) ∧ w.grownBy W (some m) ∧ Below w0.heap.size w0 W
theorem Fills.own {k : TypeId} {l : List ByteArray} {m : Nat} {w0 w : World} (hm : m < w.heap.size) (h0 : w0.heap.size ≤ w.heap.size) : OwnFrom w.heap.size (Fills k l m w0 w) := by
  rintro pre A B row ⟨h1, h2, h3⟩ hg hr
  refine ⟨h1.kept hg (fun e => by have := (hr m e.symm).1; omega), ⟨hg.os.trans h2.os, hg.tape.trans h2.tape, hg.output.trans h2.output, Nat.le_trans h2.size hg.size, fun j hj hne => ?_⟩, h3.grown hg h3.size (fun j e => Nat.le_trans h0 (hr j e).1)⟩
  rw [hg.block j (Nat.lt_of_lt_of_le hj h2.size) (fun e => by have := (hr j e.symm).1; omega), h2.block j hj hne]

theorem ne_def {w : World} {g b : Nat} {cs : Array Value} {t : TypeId} {f : Nat × Nat} {ds : Option (List Deferred)} (h : w.heap[g]? = some (.cells cs t f)) (hb : w.heap[b]? = some (.deferred ds)) : some g ≠ some b := by
  intro e
  injection e with e
  subst e
  rw [hb] at h; cases h
theorem _root_.Go.Proofs.YthjcnifdlfjieaaGreatDoor.Hc.Ow.grown_def {α : Type} {d : Kd α} {e base b : Nat} {v : Value} {l : List α} {w w' : World} {ds : Option (List Deferred)} (h : Ow d e base v l w) (hg : w.grownBy w' (some b)) (hb : w.heap[b]? = some (.deferred ds)) : Ow d e base v l w' := by
  refine ⟨Kd.R_mono (Kd.R_grown (Kd.R_bound h.out) hg (fun k hk => ?_)) (fun _ _ => trivial)⟩
  obtain ⟨_, _, _, q, _, cells, hc⟩ := hk
  exact ne_def hc hb
theorem _root_.Go.Proofs.YthjcnifdlfjieaaGreatDoor.Hg.OwnVal.grown_def {base b : Nat} {v : Value} {x : V} {w w' : World} {ds : Option (List Deferred)} (h : OwnVal base v x w) (hg : w.grownBy w' (some b)) (hb : w.heap[b]? = some (.deferred ds)) : OwnVal base v x w' := by
  obtain ⟨a, c, e, h1, h2⟩ := h
  exact ⟨a, c, e, h1.grown_def hg hb, h2.grown_def hg hb⟩

set_option maxRecDepth 100000 in
set_option maxHeartbeats 4000000 in
theorem Find (u t : Value) (x y : V) (w : World) (hG : G w) (hu : IsVal w u x) (ht : IsVal w t y) (hn : x.el.length ≤ 4294967295) (hn2 : y.el.length ≤ 4294967295) (hn3 : y.sh.length ≤ 4294967295) (hS : ∀ s ∈ x.el, s.size ≤ maxLen) (hS2 : ∀ s ∈ y.el, s.size ≤ maxLen) :
    Calls Tryz.prog 8 #[u, t] w fun e w' => RV w.heap.size (findF x y) e w' ∧ Below w.heap.size w w' := by
  have hmm := @run_makeMap Tryz.prog
  obtain ⟨a, b, rfl, ⟨A, c, rfl, hc, hr⟩, ⟨B, d, rfl, hd, hs⟩⟩ := id hu
  obtain ⟨a', b', rfl, ⟨A', c', rfl, hc', hr'⟩, ⟨B', d', rfl, hd', hs'⟩⟩ := id ht
  have hW := below_alloc (below_alloc (below_alloc (Below.refl w.heap.size w) (.cells #[.slice A x.sh.length c, .slice B x.el.length d] 25)) (.cells #[.slice A' y.sh.length c', .slice B' y.el.length d'] 25)) (.cells #[.slice none 0 0, .slice none 0 0] 25)
  refine callsIn_wide.1 (callsIn_of_wp_marks (n := 3) Tryz.func8 rfl trivial ?_ rfl)
  refine wpIn_wide.2 ?_
  simp only [Tryz.ntmps8, List.size_toArray, List.length_cons, List.length_nil, Nat.reduceAdd, Nat.reduceSub, Array.replicate_succ, Array.replicate_zero, List.push_toArray, List.append_toArray, List.nil_append, List.cons_append]
  have c1 := Lib.hid (fine _ _ x [y] _ (hu.below (below_alloc hW (.cells #[.slice A' y.sh.length c', .slice B' y.el.length d'] 25))) (isVals_one _ _ _ y (IsRow.below ⟨A', c', rfl, hc', hr'⟩ hW) (IsRow.below ⟨B', d', rfl, hd', hs'⟩ hW)))
  simp only [World.size_alloc] at c1
  have b0 := Lib.hid (blk_alloc (blk_alloc (blk_alloc (blk_new w (.cells #[.slice A x.sh.length c, .slice B x.el.length d] 25)) (.cells #[.slice A' y.sh.length c', .slice B' y.el.length d'] 25)) (.cells #[.slice none 0 0, .slice none 0 0] 25)) (.cells #[.slice A' y.sh.length c', .slice B' y.el.length d'] 25))
  have b1 := Lib.hid (blk_alloc (blk_alloc (blk_new (w.alloc (.cells #[.slice A x.sh.length c, .slice B x.el.length d] 25)) (.cells #[.slice A' y.sh.length c', .slice B' y.el.length d'] 25)) (.cells #[.slice none 0 0, .slice none 0 0] 25)) (.cells #[.slice A' y.sh.length c', .slice B' y.el.length d'] 25))
  have b2 := Lib.hid (blk_alloc (blk_new ((w.alloc (.cells #[.slice A x.sh.length c, .slice B x.el.length d] 25)).alloc (.cells #[.slice A' y.sh.length c', .slice B' y.el.length d'] 25)) (.cells #[.slice none 0 0, .slice none 0 0] 25)) (.cells #[.slice A' y.sh.length c', .slice B' y.el.length d'] 25))
  simp only [World.size_alloc] at b1 b2
  have HW := Lib.hid (below_alloc hW (.cells #[.slice A' y.sh.length c', .slice B' y.el.length d'] 25))
  have HX := Lib.hid hs
  have HY := Lib.hid hs'
  have HYs := Lib.hid hr'
  have HSz := Lib.hid hS
  have HSz2 := Lib.hid hS2
  have HG := Lib.hid hG
  clear hr hs hr' hs' hW hu ht hS hS2 hG
  by_cases hf : fineF x [y] = 0
  · have hq : Hid (findF x y = (⟨y.sh, y.el.map (fun s => ofF (place x.el s))⟩, 0)) := by show _ = _; unfold findF; rw [if_pos hf]
    rw [hf] at c1; clear hf
    go_wp2_with fail
    refine c1.out.mono ?_
    rintro e w1 ⟨rfl, hb⟩
    have b0' := Lib.hid (blk_below b0.out (hb.mono (by simp)))
    have b1' := Lib.hid (blk_below b1.out (hb.mono (by simp)))
    have b2' := Lib.hid (blk_below b2.out (hb.mono (by simp)))
    have HB := Lib.hid (HW.out.trans (hb.mono (by have := HW.out.size; simp at this ⊢; omega)))
    clear hb
    have k0 := pw_cell_below (below_alloc (below_alloc (Below.refl w1.heap.size w1) (.map #[] 0)) (.cells #[.map (some w1.heap.size)] 46)) (blk_cell b0'.out 1 : w1.cell? ⟨w.heap.size, 1, none⟩ = some (.slice B x.el.length d))
    go_wp2_with fail
    refine Calls.mono (callsIn_wide.1 (back_str 2 _ _ _ _)) ?_
    rintro e w2 ⟨rfl, rfl⟩
    go_wp2_with fail
    have hm0 := SMap.made w1 Tryz.prog 9
    have hB3 := below_alloc (below_alloc (below_alloc HB.out (.map #[] 0)) (.cells #[.map (some w1.heap.size)] 46)) (.cells #[.slice B x.el.length d] 23)
    have hbx := blk_new ((w1.alloc (.map #[] 0)).alloc (.cells #[.map (some w1.heap.size)] 46)) (.cells #[.slice B x.el.length d] 23)
    simp only [World.size_alloc] at hbx
    have bM := Lib.hid (blk_alloc (blk_new (w1.alloc (.map #[] 0)) (.cells #[.map (some w1.heap.size)] 46)) (.cells #[.slice B x.el.length d] 23))
    simp only [World.size_alloc] at bM
    have hwm : w.heap.size ≤ w1.heap.size := HB.out.size
    obtain ⟨w2, hw2⟩ : ∃ w2, ((w1.alloc (.map #[] 0)).alloc (.cells #[.map (some w1.heap.size)] 46)).alloc (.cells #[.slice B x.el.length d] 23) = w2 := ⟨_, rfl⟩
    have hz2 : w2.heap.size = w1.heap.size + 1 + 1 + 1 := by rw [← hw2]; simp
    have hm1 : SMap Tryz.prog 9 w2 w1.heap.size 0 (fun _ => none) := by
      rw [← hw2]
      exact (hm0.below (below_alloc (Below.refl _ _) _)).below (below_alloc (Below.refl _ _) _)
    have b02 := blk_alloc (blk_alloc (blk_alloc b0'.out (.map #[] 0)) (.cells #[.map (some w1.heap.size)] 46)) (.cells #[.slice B x.el.length d] 23)
    have b12 := blk_alloc (blk_alloc (blk_alloc b1'.out (.map #[] 0)) (.cells #[.map (some w1.heap.size)] 46)) (.cells #[.slice B x.el.length d] 23)
    have b22 := blk_alloc (blk_alloc (blk_alloc b2'.out (.map #[] 0)) (.cells #[.map (some w1.heap.size)] 46)) (.cells #[.slice B x.el.length d] 23)
    have HM1 := Lib.hid hm1
    rw [hw2] at hB3 hbx b02 b12 b22
    have bM := bM.out
    rw [hw2] at bM
    have bM := Lib.hid bM
    have b02 := Lib.hid b02
    have b12 := Lib.hid b12
    have b22 := Lib.hid b22
    rw [hw2]
    clear hw2 hm0 hm1 k0
    have HB3 := Lib.hid hB3
    refine (wpIn_wide (n := 3)).1 ?_
    refine rf2 27 28 8 9 (fun i => .int .i64 (i.1 : Int)) (fun i => .string x.el[i.1]) rfl (by decide) (gf := 58) (lb := #[.pointer (some ⟨w1.heap.size + 1 + 1, 0, none⟩)]) rfl trivial (enters_of Tryz.func58 (by kernel_rfl) rfl) (Kp := KpB w.heap.size (w1.heap.size + 1 + 1)) (w0 := w2)
      (back_stops_str 2 (by decide) (w1.heap.size + 1 + 1) B d x.el w w2 HX.out hB3 hbx) KpB_t (KpB_b (w0 := w) (w := w2) (Bs := w1.heap.size + 1 + 1) (by omega) (by omega)) (Below.refl _ _) (Fills 9 x.el w1.heap.size w w2) (fun _ _ _ => False)
      (Fills.own (m := w1.heap.size) (w0 := w) (w := w2) (by omega) (by omega)) (fun _ _ _ _ _ hs _ _ => hs) ⟨HM1.out, ⟨rfl, rfl, rfl, Nat.le_refl _, fun _ _ _ => rfl⟩, hB3⟩ ?assign ?body ?done ?stop
    case assign =>
      intro l i W K hK
      simp only [List.setIfInBounds_toArray, List.set_cons_zero, List.set_cons_succ] at hK ⊢
      gi_wp2
      exact hK
    case body =>
      rintro l pre i W ⟨hM, hg, hb⟩ hlt
      have HMM := Lib.hid hM
      have HGG := Lib.hid hg
      have HBB := Lib.hid hb
      have km : W.cell? ⟨w1.heap.size + 1, 0, none⟩ = some (.map (some w1.heap.size)) := by
        have := hg.block (w1.heap.size + 1) (by omega) (by simp)
        exact blk_cell (this.trans bM.out) 0
      have hsz := Lib.hid (HSz.out x.el[i.1] (List.getElem_mem _))
      have hll : pre.length < 9223372036854775807 := by omega
      clear hM hg hb
      simp only [List.setIfInBounds_toArray, List.set_cons_zero, List.set_cons_succ]
      gi_wp2_with (gi_at_mapUpdate; go_must (refine wpListIn_upd rfl (.tmp 29) (.tmp 30) (.tmp 31) 46 rfl 9 3 Tryz.underlying9 Tryz.underlying46 w1.heap.size pre.length (after x.el pre) rfl HMM.out hll x.el[i.1] hsz.out (.int .i64 (i.1 : Int)) rfl rfl ?_); intro w3 hM3 hg3; have HM3 := Lib.hid hM3; have HG3 := Lib.hid hg3; clear hM3 hg3)
      have hws : w.heap.size ≤ W.heap.size := HBB.out.size
      have h2s : w2.heap.size ≤ W.heap.size := HGG.out.size
      refine ⟨KeepsFrom.of_grownBy HG3.out (fun j e => by cases e; omega), ⟨(Below.refl _ W).grown HG3.out hws (fun j e => by cases e; omega), HG3.out.block _ (by omega) (by simp; omega)⟩, ?_, HGG.out.trans HG3.out, HBB.out.grown HG3.out hws (fun j e => by cases e; omega)⟩
      rw [after_snoc, List.length_append]; exact HM3.out
    case done =>
      rintro D ys W hD rfl ⟨hM, hg, hb⟩ hK
      have b03 := Lib.hid ((hg.block w.heap.size (by omega) (by have := blk_lt b0'.out; simp; omega)).trans b02.out)
      have b13 := Lib.hid ((hg.block (w.heap.size + 1) (by have := blk_lt b12.out; omega) (by have := blk_lt b1'.out; simp; omega)).trans b12.out)
      have b23 := Lib.hid ((hg.block (w.heap.size + 1 + 1) (by have := blk_lt b22.out; omega) (by have := blk_lt b2'.out; simp; omega)).trans b22.out)
      have bM3 := Lib.hid ((hg.block (w1.heap.size + 1) (by omega) (by simp)).trans bM.out)
      have hM2 : SMap Tryz.prog 9 W w1.heap.size x.el.length (firstM x.el 0) := by
        have := hM
        rw [down_len _ _ (Nat.le_refl _), after_down _ _ (Nat.le_refl _), Nat.sub_self] at this
        exact this
      have HM2 := Lib.hid hM2
      have HB2 := Lib.hid hb
      have HK := Lib.hid hK
      have cl := Lib.hid (Clone_int A' c' y.sh W (Kd.C_below HYs.out hb) hc' (by omega))
      have k0 : W.cell? ⟨w.heap.size + 1, 0, none⟩ = some (.slice A' y.sh.length c') := blk_cell b13.out 0
      clear hM hM2 hg hb hK hbx hB3 HM1 HB3 b02 b12 b22 bM b0' b1' b2' HB
      go_wp2_with fail
      refine cl.out.mono ?_
      rintro e w4 ⟨v4, rfl, ho4, hb4⟩
      obtain ⟨A4, d4, rfl, -⟩ := ho4.row
      have HO4 := Lib.hid (ho4.lower HB2.out.size)
      have b04 := Lib.hid (blk_below b03.out hb4)
      have b14 := Lib.hid (blk_below b13.out hb4)
      have b24 := Lib.hid (blk_below b23.out hb4)
      have bM4 := Lib.hid (blk_below bM3.out hb4)
      have HM4 := Lib.hid (HM2.out.below hb4)
      have HK4 := Lib.hid (blk_below HK.out hb4)
      have HB4 := Lib.hid (HB2.out.trans (hb4.mono HB2.out.size))
      have hws := HB2.out.size
      have k1 : (w4.alloc (.cells #[.slice A4 y.sh.length d4, .slice none 0 0] 25)).cell? ⟨w.heap.size + 1, 1, none⟩ = some (.slice B' y.el.length d') := pw_cell_below (below_alloc (Below.refl w4.heap.size w4) _) (blk_cell b14.out 1)
      clear ho4 hb4 cl k0 b03 b13 b23 bM3 HM2 HK HB2
      have hy0 : (0 : Int) ≤ (y.el.length : Int) := Int.natCast_nonneg _
      go_wp2_with fail
      go_loopw [39] (fun i wr => ∃ (k : Nat) (lv : Value) (r : List ByteArray), k ≤ y.el.length ∧ i = .int .i64 k ∧ r.length = k ∧ Ow Kd.string 9 w4.heap.size lv r wr ∧ Hid (r = (y.el.map (fun s => ofF (place x.el s))).take k)
          ∧ Hid (wr.heap[w4.heap.size]? = some (.cells #[.slice A4 y.sh.length d4, lv] 25 (0, 0))) ∧ Hid (Below w4.heap.size w4 wr)) (fun i _ => y.el.length - (intOf i).toNat)
      case atStart => exact ⟨0, _, [], Nat.zero_le _, rfl, rfl, own_nilS _ _, rfl, blk_new w4 _, below_alloc (Below.refl _ _) _⟩
      case round =>
        clear k1
        obtain ⟨k, lv, r, hk, rfl, hrk, HO, hr, hbox, hb⟩ := hrel
        obtain ⟨Al, cl, rfl, -⟩ := HO.row
        rw [hrk] at hbox HO
        by_cases hlt : k < y.el.length
        · have km : wr.cell? ⟨w1.heap.size + 1, 0, none⟩ = some (.map (some w1.heap.size)) := blk_cell (blk_below bM4.out hb.out) 0
          have kx : wr.cell? ⟨w.heap.size, 1, none⟩ = some (.slice B x.el.length d) := blk_cell (blk_below b04.out hb.out) 1
          have kg : wr.cell? ⟨w4.heap.size, 1, none⟩ = some (.slice Al k cl) := blk_cell hbox.out 1
          have HM := Lib.hid (HM4.out.below hb.out)
          have hbw : Below w.heap.size w wr := HB4.out.trans (hb.out.mono HB4.out.size)
          obtain ⟨ad, hA, hcell⟩ := C_cell (Kd.C_below HY.out hbw) k hlt
          subst hA
          have hd2 : decide (k < y.el.length) = true := by simpa using hlt
          obtain ⟨s, hs⟩ : ∃ s, y.el[k] = s := ⟨_, rfl⟩
          have hsz := Lib.hid (HSz2.out y.el[k] (List.getElem_mem _))
          have hnx : (y.el.map (fun s => ofF (place x.el s))).take k ++ [ofF (place x.el y.el[k])] = (y.el.map (fun s => ofF (place x.el s))).take (k + 1) := by
            rw [List.take_succ_eq_append_getElem (by simpa using hlt)]; simp
          rw [hs] at hcell hsz hnx
          obtain ⟨q, hq2⟩ : ∃ q, place x.el s = q := ⟨_, rfl⟩
          have hqr := place_range x.el s
          rw [hq2] at hqr hnx
          have hnx := Lib.hid hnx
          have hq1 : q ≤ 4294967295 := by omega
          have hq0 : 0 ≤ q := hqr.1
          have cof := Lib.hid (fun (W : World) (h : Below wr.heap.size wr W) => Of q W ((HG.out.below hbw).below h) (by omega) (by omega))
          have HBW := Lib.hid hbw
          have hgs : w4.heap.size ≤ wr.heap.size := hb.out.size
          have hgl : w4.heap.size < wr.heap.size := blk_lt hbox.out
          clear hs hbw hqr
          by_cases hin : fst x.el 0 s < 0
          · have hl1 : firstM x.el 0 s = none := by unfold firstM; rw [if_pos hin]
            have hl2 : q = x.el.length := by rw [← hq2]; unfold place; rw [if_pos hin]
            have HL := Lib.hid hl1
            have HQ2 := Lib.hid hq2
            subst hl2
            clear hin hl1 hq2
            go_wp2_with (at_lookup; go_must (refine wpList_look_ok rfl (.tmp 44) (.tmp 45) 46 rfl 9 3 Tryz.underlying9 Tryz.underlying46 (Tryz.zeroValue3 _) w1.heap.size x.el.length (firstM x.el 0) rfl HM.out s hsz.out rfl ?_); rw [HL.out]; simp only [Option.getD_none, Option.isSome_none])
            refine wp_region_noPanic ?_
            go_region_law (first
              | (go_simp
                 go_at_call 27
                 refine (cof.out _ (by first | exact (Below.refl _ _).drew | exact Below.refl _ _)).mono ?_
                 rintro e w6 ⟨rfl, hb6⟩
                 have hb6' : Below wr.heap.size wr w6 := (Below.refl _ wr).drew.trans (hb6.mono (Nat.le_refl _))
                 have kg6 : w6.cell? ⟨w4.heap.size, 1, none⟩ = some (.slice Al k cl) := blk_cell (blk_below hbox.out hb6') 1
                 have kg6' := pw_cell_below (below_alloc (Below.refl w6.heap.size w6) (.cells #[.string (ofF (x.el.length : Int))] 9)) kg6
                 have HO6 := Lib.hid (HO.below hb6')
                 have hbox6 := Lib.hid (blk_below hbox.out hb6')
                 have HB6 := Lib.hid hb6'
                 clear hb6 hb6')
              | (refine Kd.R_append_step Kd.string (w0 := w4) w4.heap.size (by rfl) (.tmp 55) (.tmp 58) 23 9 (.string ⟨#[]⟩) 16 rfl Tryz.underlying23 info_string rfl (by decide) (by omega) (.slice Al k cl) r (ofF (x.el.length : Int)) [.string (ofF (x.el.length : Int))] (fun _ => True) (fun _ => False) rfl rfl ?aP (fun _ hk => hk.elim) (fun _ _ => trivial) ?aO ?aB ?aS ?aL ?_
                 (case aP => exact rfl)
                 (case aO => exact HO6.out.out)
                 (case aB => exact hb.out.trans (HB6.out.mono hgs))
                 (case aS => exact Nat.le_trans hgs HB6.out.size)
                 (case aL => omega)
                 intro v1 w7 hR hb7 hg7 _
                 obtain ⟨A7, c7, e7, -⟩ := (Ow.mk hR).row
                 rw [List.length_append, hrk] at e7
                 subst e7
                 have HO7 := Lib.hid (Ow.mk hR)
                 have HB7 := Lib.hid hb7
                 have hbox7 := Lib.hid (blk_grown hbox6.out hg7 (Kd.R_ne HO6.out.out hbox6.out (by decide)))
                 have kf7 := blk_frozen hbox7.out 1
                 have kc7 : w7.cell? ⟨w4.heap.size, 1, none⟩ = some (.slice Al k cl) := blk_cell hbox7.out 1
                 clear hR hb7 hg7))
            all_goals
              refine NoPanic.normal ?_
              go_wp2
              go_roundw
              case rel => exact ⟨k + 1, _, r ++ [ofF (x.el.length : Int)], by omega, by go_num, by simp [hrk], HO7.out.set hbox7.out (by decide) 1 _, (show r ++ [ofF (x.el.length : Int)] = _ from by rw [hr.out]; exact hnx.out), blk_set hbox7.out 1 _, HB7.out.setCell (p := ⟨w4.heap.size, 1, none⟩) (Nat.le_refl _) _⟩
              case measure => simp [intOf]; omega
          · have hl1 : firstM x.el 0 s = some (.int .i64 q) := by unfold firstM; rw [if_neg hin, ← hq2]; unfold place; rw [if_neg hin]
            have HL := Lib.hid hl1
            have HQ2 := Lib.hid hq2
            clear hin hl1 hq2
            go_wp2_with (at_lookup; go_must (refine wpList_look_ok rfl (.tmp 44) (.tmp 45) 46 rfl 9 3 Tryz.underlying9 Tryz.underlying46 (Tryz.zeroValue3 _) w1.heap.size x.el.length (firstM x.el 0) rfl HM.out s hsz.out rfl ?_); rw [HL.out]; simp only [Option.getD_some, Option.isSome_some])
            refine wp_region_noPanic ?_
            go_region_law (first
              | (go_simp
                 go_at_call 27
                 refine (cof.out _ (by first | exact (Below.refl _ _).drew | exact Below.refl _ _)).mono ?_
                 rintro e w6 ⟨rfl, hb6⟩
                 have hb6' : Below wr.heap.size wr w6 := (Below.refl _ wr).drew.trans (hb6.mono (Nat.le_refl _))
                 have kg6 : w6.cell? ⟨w4.heap.size, 1, none⟩ = some (.slice Al k cl) := blk_cell (blk_below hbox.out hb6') 1
                 have kg6' := pw_cell_below (below_alloc (Below.refl w6.heap.size w6) (.cells #[.string (ofF q)] 9)) kg6
                 have HO6 := Lib.hid (HO.below hb6')
                 have hbox6 := Lib.hid (blk_below hbox.out hb6')
                 have HB6 := Lib.hid hb6'
                 clear hb6 hb6')
              | (refine Kd.R_append_step Kd.string (w0 := w4) w4.heap.size (by rfl) (.tmp 55) (.tmp 58) 23 9 (.string ⟨#[]⟩) 16 rfl Tryz.underlying23 info_string rfl (by decide) (by omega) (.slice Al k cl) r (ofF q) [.string (ofF q)] (fun _ => True) (fun _ => False) rfl rfl ?aP (fun _ hk => hk.elim) (fun _ _ => trivial) ?aO ?aB ?aS ?aL ?_
                 (case aP => exact rfl)
                 (case aO => exact HO6.out.out)
                 (case aB => exact hb.out.trans (HB6.out.mono hgs))
                 (case aS => exact Nat.le_trans hgs HB6.out.size)
                 (case aL => omega)
                 intro v1 w7 hR hb7 hg7 _
                 obtain ⟨A7, c7, e7, -⟩ := (Ow.mk hR).row
                 rw [List.length_append, hrk] at e7
                 subst e7
                 have HO7 := Lib.hid (Ow.mk hR)
                 have HB7 := Lib.hid hb7
                 have hbox7 := Lib.hid (blk_grown hbox6.out hg7 (Kd.R_ne HO6.out.out hbox6.out (by decide)))
                 have kf7 := blk_frozen hbox7.out 1
                 have kc7 : w7.cell? ⟨w4.heap.size, 1, none⟩ = some (.slice Al k cl) := blk_cell hbox7.out 1
                 clear hR hb7 hg7))
            all_goals
              refine NoPanic.normal ?_
              go_wp2
              go_roundw
              case rel => exact ⟨k + 1, _, r ++ [ofF q], by omega, by go_num, by simp [hrk], HO7.out.set hbox7.out (by decide) 1 _, (show r ++ [ofF q] = _ from by rw [hr.out]; exact hnx.out), blk_set hbox7.out 1 _, HB7.out.setCell (p := ⟨w4.heap.size, 1, none⟩) (Nat.le_refl _) _⟩
              case measure => simp [intOf]; omega
        · have hrr : r = y.el.map (fun s => ofF (place x.el s)) := by
            have := hr.out
            rw [List.take_of_length_le (by simp; omega)] at this
            exact this
          have hd2 : decide (k < y.el.length) = false := by simpa using hlt
          subst hrr
          have hkk : k = y.el.length := by omega
          subst hkk
          have kg0 : wr.cell? ⟨w4.heap.size, 0, none⟩ = some (.slice A4 y.sh.length d4) := blk_cell hbox.out 0
          have kg1 : wr.cell? ⟨w4.heap.size, 1, none⟩ = some (.slice Al y.el.length cl) := blk_cell hbox.out 1
          have hbox2 := blk_below b24.out hb.out
          have k0 : wr.cell? ⟨w.heap.size + 1 + 1, 0, none⟩ = some (.slice none 0 0) := blk_cell hbox2 0
          have k1 : wr.cell? ⟨w.heap.size + 1 + 1, 1, none⟩ = some (.slice none 0 0) := blk_cell hbox2 1
          have f0 := blk_frozen hbox2 0
          have f1 := blk_frozen hbox2 1
          have hws4 : w.heap.size ≤ w4.heap.size := HB4.out.size
          have HF := Lib.hid (fin2 (W := w) (x := ⟨y.sh, y.el.map (fun s => ofF (place x.el s))⟩) hbox2 (HO4.out.below hb.out) (HO.lower hws4) (HB4.out.trans (hb.out.mono HB4.out.size)) (by omega))
          have hDn : D ≠ w.heap.size + 1 + 1 := by rintro rfl; have := HK4.out.symm.trans b24.out; cases this
          have HD : Hid (((wr.setCell ⟨w.heap.size + 1 + 1, 0, none⟩ (.slice A4 y.sh.length d4)).setCell ⟨w.heap.size + 1 + 1, 1, none⟩ (.slice Al y.el.length cl)).heap[D]? = some (.deferred (some []))) := by
            show _ = _
            rw [Below.heap_setCell _ _ _ _ hDn, Below.heap_setCell _ _ _ _ hDn]; exact blk_below HK4.out hb.out
          have hb8 := Lib.hid (blk_set (blk_set hbox2 0 (.slice A4 y.sh.length d4)) 1 (.slice Al y.el.length cl))
          clear hbox2 HO hb hr
          go_wp2
          have hg9 := grownBy_putObj' ((wr.setCell ⟨w.heap.size + 1 + 1, 0, none⟩ (.slice A4 y.sh.length d4)).setCell ⟨w.heap.size + 1 + 1, 1, none⟩ (.slice Al y.el.length cl)) D (.deferred none)
          have hb9 := (hg9.block _ (blk_lt hb8.out) (by simp; omega)).trans hb8.out
          refine ⟨by simp, .inl ⟨_, _, rfl, run_takeDeferred HD.out, ?_⟩⟩
          have k9 := blk_cell hb9 0
          have k9' := blk_cell hb9 1
          refine ⟨.tuple #[.agg #[.slice A4 y.sh.length d4, .slice Al y.el.length cl], .int .i64 0], ?_, ?_, ?_⟩
          · simp at k9 k9'
            simp [results, Tryz.results8, go_sem, k9, k9']
          · rw [hq.out]; exact ⟨_, rfl, HF.out.1.grown_def hg9 HD.out⟩
          · exact HF.out.2.grown hg9 HF.out.2.size (fun j e => by cases e; omega)
    case stop =>
      rintro D c pre W _ _ h _
      exact h.elim
  · have hq : Hid (findF x y = (V0, fineF x [y])) := by show _ = _; unfold findF; rw [if_neg hf]
    have hf1 : (fineF x [y] == 0) = false := by simpa using hf
    have hf2 : (fineF x [y] != 0) = true := by simpa using hf
    clear hf
    go_wp2_with fail
    refine c1.out.mono ?_
    rintro e w1 ⟨rfl, hb⟩
    have b2' := blk_below b2.out (hb.mono (by simp))
    have k2 : w1.cell? ⟨w.heap.size + 1 + 1, 0, none⟩ = some (.slice none 0 0) := blk_cell b2' 0
    have k3 : w1.cell? ⟨w.heap.size + 1 + 1, 1, none⟩ = some (.slice none 0 0) := blk_cell b2' 1
    have f2 := blk_frozen b2' 0
    have f3 := blk_frozen b2' 1
    have HB := Lib.hid (HW.out.trans (hb.mono (by have := HW.out.size; simp at this ⊢; omega)))
    clear hb b2'
    go_wp2
    refine ⟨.tuple #[.agg #[.slice none 0 0, .slice none 0 0], .int .i64 (fineF x [y])], by simp [results, Tryz.results8, go_sem, k2, k3], RV_err _ _ hq.out, (HB.out.setCell (p := ⟨w.heap.size + 1 + 1, 0, none⟩) (by simp; omega) _).setCell (p := ⟨w.heap.size + 1 + 1, 1, none⟩) (by simp; omega) _⟩
end Go.Proofs.YthjcnifdlfjieaaGreatDoor.Hl
