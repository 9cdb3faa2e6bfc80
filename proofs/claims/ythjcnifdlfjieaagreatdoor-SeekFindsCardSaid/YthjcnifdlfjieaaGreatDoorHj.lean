import Derived.Test.YthjcnifdlfjieaaGreatDoorHi
import Derived.Test.YthjcnifdlfjieaaGreatDoorHm
set_option linter.unusedVariables false
set_option linter.unusedSimpArgs false
namespace Go.Proofs.YthjcnifdlfjieaaGreatDoor.Hj
open Go.RowKit Go.Shelf Go.Proofs.YthjcnifdlfjieaaGreatDoorW.PrintWords Go.Proofs.YthjcnifdlfjieaaGreatDoor.Ha Go.Proofs.YthjcnifdlfjieaaGreatDoor.Hb Go.Proofs.YthjcnifdlfjieaaGreatDoor.Hc Go.Proofs.YthjcnifdlfjieaaGreatDoor.Hp Go.Proofs.YthjcnifdlfjieaaGreatDoor.Hd Go.Proofs.YthjcnifdlfjieaaGreatDoor.He Go.Proofs.YthjcnifdlfjieaaGreatDoor.Hf Go.Proofs.YthjcnifdlfjieaaGreatDoor.Hg Go.Proofs.YthjcnifdlfjieaaGreatDoor.Hh Go.Proofs.YthjcnifdlfjieaaGreatDoor.Hi Go.Proofs.YthjcnifdlfjieaaGreatDoor.Hm

/-- What a call of two results, an array and an error, comes to. -/
def RV (base : Nat) (r : V × Int) (e : Ending) (w : World) : Prop := ∃ u, e = .returned (.tuple #[u, .int .i64 r.2]) ∧ OwnVal base u r.1 w
def V0 : V := ⟨[], []⟩
theorem own_nilI (w : World) (base : Nat) : Ow (Kd.int .i64) 3 base (.slice none 0 0) [] w := ⟨Kd.R_nil _ _ _ _ _⟩
theorem own_nilS (w : World) (base : Nat) : Ow Kd.string 9 base (.slice none 0 0) [] w := ⟨Kd.R_nil _ _ _ _ _⟩
theorem RV_err (base : Nat) (w : World) {r : V × Int} {n : Int} (h : r = (V0, n)) : RV base r (.returned (.tuple #[.agg #[.slice none 0 0, .slice none 0 0], .int .i64 n])) w := by
  subst h
  exact ⟨_, rfl, _, _, rfl, own_nilI _ _, own_nilS _ _⟩
theorem isVals_nil (w : World) : IsVals w (.slice none 0 0) [] := ⟨none, 0, rfl, Nat.le_refl _, by simp, fun h => absurd h (by simp)⟩

open Classical in
noncomputable def uq (r : List ByteArray) (s : ByteArray) : List ByteArray := if s ∈ r then r else r ++ [s]
noncomputable def uniqF (l : List ByteArray) : List ByteArray := l.foldl uq []
open Classical in
noncomputable def seenF (r : List ByteArray) : ByteArray → Option Value := fun s => if s ∈ r then some (.bool true) else none
open Classical in
theorem mem_uq (r : List ByteArray) (s t : ByteArray) : t ∈ uq r s ↔ t = s ∨ t ∈ r := by
  unfold uq
  by_cases hs : s ∈ r
  · rw [if_pos hs]
    exact ⟨.inr, fun h => h.elim (fun h => h ▸ hs) id⟩
  · rw [if_neg hs]; simp [or_comm]
open Classical in
theorem seen_upd (r : List ByteArray) (s : ByteArray) : upd (seenF r) s (.bool true) = seenF (uq r s) := by
  funext t
  unfold upd seenF
  by_cases ht : t = s
  · rw [if_pos ht, if_pos ((mem_uq r s t).2 (.inl ht))]
  · rw [if_neg ht]
    by_cases hr : t ∈ r
    · rw [if_pos hr, if_pos ((mem_uq r s t).2 (.inr hr))]
    · rw [if_neg hr, if_neg (fun h => ((mem_uq r s t).1 h).elim ht hr)]
theorem uniq_next (l : List ByteArray) (k : Nat) (h : k < l.length) : uq ((l.take k).foldl uq []) l[k] = (l.take (k + 1)).foldl uq [] := by
  rw [List.take_succ_eq_append_getElem h, List.foldl_append]; rfl
theorem uniq_len (l : List ByteArray) : ∀ r, (l.foldl uq r).length ≤ r.length + l.length := by
  induction l with
  | nil => intro r; simp
  | cons s l ih =>
    intro r
    rw [List.foldl_cons]
    refine Nat.le_trans (ih _) ?_
    unfold uq
    split <;> simp <;> omega
noncomputable def uniqV (x : V) : V × Int := if fineF x [] = 0 then (⟨[((uniqF x.el).length : Int)], uniqF x.el⟩, 0) else (V0, fineF x [])

open Classical in
theorem seen_nil : seenF [] = fun _ => none := by funext t; simp [seenF]
open Classical in
theorem uq_in {r : List ByteArray} {s : ByteArray} (h : s ∈ r) : uq r s = r := by unfold uq; rw [if_pos h]
open Classical in
theorem uq_out {r : List ByteArray} {s : ByteArray} (h : ¬ s ∈ r) : uq r s = r ++ [s] := by unfold uq; rw [if_neg h]
theorem ne_map {w : World} {g b : Nat} {cs : Array Value} {t : TypeId} {f : Nat × Nat} (h : w.heap[g]? = some (.cells cs t f)) (hb : ∃ es c, w.heap[b]? = some (.map es c)) : some g ≠ some b := by
  obtain ⟨es, c, hb⟩ := hb
  intro e
  injection e with e
  subst e
  rw [hb] at h; cases h
theorem _root_.Go.Proofs.YthjcnifdlfjieaaGreatDoor.Hc.Ow.grown_map {α : Type} {d : Kd α} {e base b : Nat} {v : Value} {l : List α} {w w' : World} (h : Ow d e base v l w) (hg : w.grownBy w' (some b)) (hb : ∃ es c, w.heap[b]? = some (.map es c)) : Ow d e base v l w' := by
  refine ⟨Kd.R_mono (Kd.R_grown (Kd.R_bound h.out) hg (fun k hk => ?_)) (fun _ _ => trivial)⟩
  obtain ⟨_, _, _, q, _, cells, hc⟩ := hk
  exact ne_map hc hb
theorem _root_.Go.Proofs.YthjcnifdlfjieaaGreatDoor.Hc.Ow.ne_map {α : Type} {d : Kd α} {e base b : Nat} {v : Value} {l : List α} {w : World} (h : Ow d e base v l w) (hb : ∃ es c, w.heap[b]? = some (.map es c)) : some b ≠ v.ownBlock := by
  obtain ⟨inner, ho⟩ := Kd.R_own h.out
  intro e
  obtain ⟨cells, hc⟩ := own_typed ho b e.symm
  exact Hj.ne_map hc hb rfl

set_option maxHeartbeats 4000000 in
theorem Unique (u : Value) (x : V) (w : World) (hv : IsVal w u x) (hn : x.el.length ≤ 4294967295) (hS : ∀ s ∈ x.el, s.size ≤ maxLen) :
    Calls Tryz.prog 10 #[u] w fun e w' => RV w.heap.size (uniqV x) e w' ∧ Below w.heap.size w w' := by
  have hmm := @run_makeMap Tryz.prog
  obtain ⟨a, b, rfl, ⟨A, c, rfl, hc, hr⟩, ⟨B, d, rfl, hd, hs⟩⟩ := id hv
  have hW := below_alloc (below_alloc (Below.refl w.heap.size w) (.cells #[.slice A x.sh.length c, .slice B x.el.length d] 25)) (.cells #[.slice none 0 0, .slice none 0 0] 25)
  have c1 := Lib.hid (fine _ (.slice none 0 0) x [] _ (hv.below hW) (isVals_nil _))
  have b0 := Lib.hid (blk_alloc (blk_new w (.cells #[.slice A x.sh.length c, .slice B x.el.length d] 25)) (.cells #[.slice none 0 0, .slice none 0 0] 25))
  have b1 := Lib.hid (blk_new (w.alloc (.cells #[.slice A x.sh.length c, .slice B x.el.length d] 25)) (.cells #[.slice none 0 0, .slice none 0 0] 25))
  rw [World.size_alloc] at b1
  have HW := Lib.hid hW
  have HC := Lib.hid hs
  have HSz := Lib.hid hS
  clear hr hs hW hv hS
  by_cases hf : fineF x [] = 0
  · have hq : Hid (uniqV x = (⟨[((uniqF x.el).length : Int)], uniqF x.el⟩, 0)) := by show _ = _; unfold uniqV; rw [if_pos hf]
    rw [hf] at c1; clear hf
    go_enter Tryz.func10, Tryz.ntmps10
    go_wp2_with fail
    refine c1.out.mono ?_
    rintro e w1 ⟨rfl, hb⟩
    have k0 : w1.cell? ⟨w.heap.size, 1, none⟩ = some (.slice B x.el.length d) := blk_cell (blk_below b0.out hb) 1
    have b1' := Lib.hid (blk_below b1.out hb)
    have HB := Lib.hid (HW.out.trans (hb.mono HW.out.size))
    have k0' := pw_cell_below (below_alloc (Below.refl w1.heap.size w1) (.map #[] 0)) k0
    clear hb
    have HSZ := HSz
    go_wp2_with fail
    have hm0 := SMap.made w1 Tryz.prog 9
    go_loopw [6, 19] (fun lv i wr => ∃ (k : Nat) (r : List ByteArray), k ≤ x.el.length ∧ i = .int .i64 k ∧ r.length ≤ k ∧ Ow Kd.string 9 w.heap.size lv r wr ∧ Hid (r = (x.el.take k).foldl uq []) ∧ SMap Tryz.prog 9 wr w1.heap.size k (seenF r) ∧ Hid (wr.heap[w.heap.size + 1]? = some (.cells #[.slice none 0 0, .slice none 0 0] 25 (0, 0))) ∧ Below w.heap.size w wr) (fun _ i _ => x.el.length - (intOf i).toNat)
    case atStart => exact ⟨0, [], Nat.zero_le _, rfl, Nat.le_refl _, own_nilS _ _, rfl, by rw [seen_nil]; exact hm0, blk_alloc b1'.out _, HB.out.alloc HB.out.size _⟩
    case round =>
      clear k0 k0' hm0
      obtain ⟨k, r, hk, rfl, hrk, HO, hr, HM, hbox, hb⟩ := hrel
      by_cases hlt : k < x.el.length
      · obtain ⟨ad, hA, hcell⟩ := C_cell (Kd.C_below HC.out hb) k hlt
        subst hA
        have hd' : decide (k < x.el.length) = true := by simpa using hlt
        obtain ⟨s, hs⟩ : ∃ s, x.el[k] = s := ⟨_, rfl⟩
        have hsz := Lib.hid (HSz.out x.el[k] (List.getElem_mem _))
        have hnx := Lib.hid (uniq_next x.el k hlt)
        rw [hs] at hcell hsz hnx
        clear hs
        have HB2 := Lib.hid hb; clear hb
        have HM := Lib.hid HM
        by_cases hin : s ∈ r
        · have hl : (seenF r s).getD (.bool false) = .bool true := by simp [seenF, hin]
          have hq2 := Lib.hid (uq_in hin)
          clear hin
          go_wp2_with (first
            | (at_lookup; go_must (refine wpList_look rfl (.tmp 23) (.tmp 24) 54 rfl 9 4 Tryz.underlying9 Tryz.underlying54 (Tryz.zeroValue4 _) w1.heap.size k (seenF r) rfl HM.out s hsz.out rfl ?_))
            | (at_mapUpdate; go_must (refine wpList_upd rfl (.tmp 31) (.tmp 32) (.const (.bool true)) 54 rfl 9 4 Tryz.underlying9 Tryz.underlying54 w1.heap.size k (seenF r) rfl HM.out (by omega) s hsz.out (.bool true) rfl rfl ?_); intro w2 hM2 hg2; have HM2 := Lib.hid hM2; have HG2 := Lib.hid hg2; clear hM2 hg2))
          go_roundw
          case rel => exact ⟨k + 1, r, by omega, by go_num, by omega, HO.grown_map HG2.out HM.out.block, (show r = _ from by rw [← hnx.out, ← hr.out, hq2.out]), (by have := HM2.out; rw [seen_upd, hq2.out] at this; exact this), blk_grown hbox.out HG2.out (ne_map hbox.out HM.out.block), HB2.out.grown HG2.out HB2.out.size (fun j e => by cases e; exact HB.out.size)⟩
          case measure => simp [intOf]; omega
        · have hl : (seenF r s).getD (.bool false) = .bool false := by simp [seenF, hin]
          have hq2 := Lib.hid (uq_out hin)
          clear hin
          have HO := Lib.hid HO
          go_wp2_with (first
            | (at_lookup; go_must (refine wpList_look rfl (.tmp 23) (.tmp 24) 54 rfl 9 4 Tryz.underlying9 Tryz.underlying54 (Tryz.zeroValue4 _) w1.heap.size k (seenF r) rfl HM.out s hsz.out rfl ?_))
            | (at_builtin; go_must (refine Kd.R_append Kd.string (w0 := w) w.heap.size rfl (.tmp 27) (.tmp 29) 23 9 (.string ⟨#[]⟩) 16 rfl Tryz.underlying23 info_string rfl (by decide) (by omega) _ r s [.string s] (fun _ => True) (fun _ => False) rfl rfl rfl (fun _ hk => hk.elim) (fun _ _ => trivial) HO.out.out HB2.out HB2.out.size (by omega) ?_); intro v1 w2 hR hb hg _; have HO3 := Lib.hid (Ow.mk hR); have HB3 := Lib.hid hb; have hbox3 := Lib.hid (blk_grown hbox.out hg (Kd.R_ne HO.out.out hbox.out (by decide))); have HM3 := Lib.hid (HM.out.kept hg (HO.out.ne_map HM.out.block)); clear hR hb hg)
            | (at_mapUpdate; go_must (refine wpList_upd rfl (.tmp 31) (.tmp 32) (.const (.bool true)) 54 rfl 9 4 Tryz.underlying9 Tryz.underlying54 w1.heap.size k (seenF r) rfl HM3.out (by omega) s hsz.out (.bool true) rfl rfl ?_); intro w3 hM2 hg2; have HM2 := Lib.hid hM2; have HG2 := Lib.hid hg2; clear hM2 hg2))
          go_roundw
          case rel => exact ⟨k + 1, r ++ [s], by omega, by go_num, by simp; omega, HO3.out.grown_map HG2.out HM3.out.block, (show r ++ [s] = _ from by rw [← hnx.out, ← hr.out, hq2.out]), (by have := HM2.out; rw [seen_upd, hq2.out] at this; exact this), blk_grown hbox3.out HG2.out (ne_map hbox3.out HM3.out.block), HB3.out.grown HG2.out HB3.out.size (fun j e => by cases e; exact HB.out.size)⟩
          case measure => simp [intOf]; omega
      · have hd' : decide (k < x.el.length) = false := by simpa using hlt
        have hrr : r = uniqF x.el := by
          have := hr.out
          rw [List.take_of_length_le (by omega)] at this
          exact this
        subst hrr
        have c2 := Lib.hid (fun (v : Value) (h : Ow Kd.string 9 w.heap.size v (uniqF x.el) wr) => Vector v (uniqF x.el) wr h.row (by omega))
        have HB2 := Lib.hid hb; clear hb
        have HM := Lib.hid HM
        go_wp2_with fail
        refine (c2.out _ HO).mono ?_
        rintro e w2 ⟨u, rfl, hu, hb⟩
        have hbox2 := blk_below hbox.out hb
        have k0 : w2.cell? ⟨w.heap.size + 1, 0, none⟩ = some (.slice none 0 0) := blk_cell hbox2 0
        have k1 : w2.cell? ⟨w.heap.size + 1, 1, none⟩ = some (.slice none 0 0) := blk_cell hbox2 1
        have f0 := blk_frozen hbox2 0
        have f1 := blk_frozen hbox2 1
        obtain ⟨a, b, rfl, ha, hbb⟩ := hu
        have HF := Lib.hid (fin2 (x := ⟨[((uniqF x.el).length : Int)], uniqF x.el⟩) hbox2 (ha.lower HB2.out.size) (hbb.lower HB2.out.size) (HB2.out.trans (hb.mono HB2.out.size)) (by simp))
        obtain ⟨A1, d1, rfl, -⟩ := ha.row
        obtain ⟨A2, d2, rfl, -⟩ := hbb.row
        clear hb ha hbb hbox hbox2 HO c2
        simp only [List.length_cons, List.length_nil, Nat.zero_add] at HF
        go_wp2
        refine bodyPost_ret (v := .tuple #[.agg #[.slice A1 1 d1, .slice A2 (uniqF x.el).length d2], .int .i64 0]) (by simp [results, Tryz.results10, go_sem, k0, k1]) rfl ?_
        exact ⟨by rw [hq.out]; exact ⟨_, rfl, HF.out.1⟩, HF.out.2⟩
  · have hq : Hid (uniqV x = (V0, fineF x [])) := by show _ = _; unfold uniqV; rw [if_neg hf]
    have hf1 : (fineF x [] == 0) = false := by simpa using hf
    have hf2 : (fineF x [] != 0) = true := by simpa using hf
    clear hf
    go_enter Tryz.func10, Tryz.ntmps10
    go_wp2_with fail
    refine c1.out.mono ?_
    rintro e w1 ⟨rfl, hb⟩
    have b1' := blk_below b1.out hb
    have k2 : w1.cell? ⟨w.heap.size + 1, 0, none⟩ = some (.slice none 0 0) := blk_cell b1' 0
    have k3 : w1.cell? ⟨w.heap.size + 1, 1, none⟩ = some (.slice none 0 0) := blk_cell b1' 1
    have f2 := blk_frozen b1' 0
    have f3 := blk_frozen b1' 1
    have HB := Lib.hid (HW.out.trans (hb.mono HW.out.size))
    clear hb b1'
    go_wp2
    refine bodyPost_ret (v := .tuple #[.agg #[.slice none 0 0, .slice none 0 0], .int .i64 (fineF x [])]) (by simp [results, Tryz.results10, go_sem, k2, k3]) rfl ?_
    exact ⟨RV_err _ _ hq.out, (HB.out.setCell (p := ⟨w.heap.size + 1, 0, none⟩) (by simp) _).setCell (p := ⟨w.heap.size + 1, 1, none⟩) (by simp) _⟩
end Go.Proofs.YthjcnifdlfjieaaGreatDoor.Hj
