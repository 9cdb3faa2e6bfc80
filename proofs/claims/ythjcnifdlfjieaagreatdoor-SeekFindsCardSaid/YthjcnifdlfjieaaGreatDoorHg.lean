import Derived.Test.YthjcnifdlfjieaaGreatDoorHf
set_option linter.unusedVariables false
set_option linter.unusedSimpArgs false
namespace Go.Proofs.YthjcnifdlfjieaaGreatDoor.Hg
open Go.RowKit Go.Shelf Go.Proofs.YthjcnifdlfjieaaGreatDoorW.PrintWords Go.Proofs.YthjcnifdlfjieaaGreatDoor.Ha Go.Proofs.YthjcnifdlfjieaaGreatDoor.Hb Go.Proofs.YthjcnifdlfjieaaGreatDoor.Hc Go.Proofs.YthjcnifdlfjieaaGreatDoor.Hp Go.Proofs.YthjcnifdlfjieaaGreatDoor.Hd Go.Proofs.YthjcnifdlfjieaaGreatDoor.He Go.Proofs.YthjcnifdlfjieaaGreatDoor.Hf

def ofF (x : Int) : ByteArray := ⟨(Lib.itoa x).toArray⟩
theorem below_growDrew {w : World} (k : Nat) (os : Array Obj) : Below w.heap.size w (Go.Sort.grow (w.drewN k) os) := by
  refine ⟨rfl, rfl, rfl, ?_, fun i hi => ?_⟩
  · show w.heap.size ≤ (w.heap ++ os).size; rw [Array.size_append]; omega
  · show (w.heap ++ os)[i]? = _; rw [Array.getElem?_append_left hi]
theorem Of (x : Int) (w : World) (hG : G w) (h0 : -9223372036854775808 ≤ x) (h1 : x ≤ 9223372036854775807) : Calls Tryz.prog 27 #[.int .i64 x] w fun e w' => e = .returned (.string (ofF x)) ∧ Below w.heap.size w w' := by
  have c1 := Lib.hid (Tryz.strconv_FormatInt_10 x h0 h1 w hG.tab)
  clear hG
  go_enter Tryz.func27, Tryz.ntmps27
  go_wp2_with fail
  refine c1.out.mono ?_
  rintro e w1 ⟨rfl, k, os, hw⟩
  have HB : Hid (Below w.heap.size w w1) := by rw [hw]; exact below_growDrew _ _
  clear hw
  go_wp2
  go_ret
  exact ⟨rfl, HB.out⟩

def oneF (s : ByteArray) : Option Int := match intF s with | some n => if n < -1099511627776 ∨ 1099511627776 < n then none else some n | none => none
/-- The error beside: 5, if there is nothing. -/
def e5 {α : Type} (p : Option α) : Int := match p with | some _ => 0 | none => 5
def z0 (p : Option Int) : Int := p.getD 0
theorem ret_one {p : Option Int} {a b : Int} (h : z0 p = a) (h2 : e5 p = b) : Ending.returned (.tuple #[.int .i64 a, .int .i64 b]) = .returned (.tuple #[.int .i64 (z0 p), .int .i64 (e5 p)]) := by rw [h, h2]

theorem oneF_some {s : ByteArray} {n : Int} (h : intF s = some n) (h1 : -1099511627776 ≤ n) (h2 : n ≤ 1099511627776) : oneF s = some n := by
  simp only [oneF, h]; rw [if_neg (by omega)]
theorem oneF_none {s : ByteArray} {n : Int} (h : intF s = some n) (h1 : ¬ (-1099511627776 ≤ n ∧ n ≤ 1099511627776)) : oneF s = none := by
  simp only [oneF, h]; rw [if_pos (by omega)]

set_option maxHeartbeats 1000000 in
theorem one (s : ByteArray) (w : World) (hG : G w) : Calls Tryz.prog 28 #[.string s] w fun e w' => e = .returned (.tuple #[.int .i64 (z0 (oneF s)), .int .i64 (e5 (oneF s))]) ∧ Below w.heap.size w w' := by
  have c1 := Lib.hid (IntS s w hG)
  clear hG
  cases hi : intF s with
  | none =>
    have hf : Hid (oneF s = none) := by show _ = _; simp [oneF, hi]
    rw [hi] at c1; clear hi
    go_enter Tryz.func28, Tryz.ntmps28
    go_wp2_with fail
    refine c1.out.mono ?_
    rintro e w1 ⟨rfl, hb⟩
    have HB := Lib.hid hb; clear hb
    go_wp2
    go_ret2
    exact ⟨ret_one (by rw [hf.out]; rfl) (by rw [hf.out]; rfl), HB.out⟩
  | some n =>
    by_cases hn : -1099511627776 ≤ n ∧ n ≤ 1099511627776
    · obtain ⟨hn1, hn2⟩ := hn
      have hf := Lib.hid (oneF_some hi hn1 hn2)
      rw [hi] at c1; clear hi
      go_enter Tryz.func28, Tryz.ntmps28
      go_wp2_with fail
      refine c1.out.mono ?_
      rintro e w1 ⟨rfl, hb⟩
      have HB := Lib.hid hb; clear hb
      go_wp2
      all_goals go_ret2
      all_goals exact ⟨ret_one (by rw [hf.out]; rfl) (by rw [hf.out]; rfl), HB.out⟩
    · have hf := Lib.hid (oneF_none hi hn)
      rw [hi] at c1; clear hi
      go_enter Tryz.func28, Tryz.ntmps28
      go_wp2_with fail
      refine c1.out.mono ?_
      rintro e w1 ⟨rfl, hb⟩
      have HB := Lib.hid hb; clear hb
      go_wp2
      all_goals go_ret2
      all_goals first
        | (exfalso; omega)
        | exact ⟨ret_one (by rw [hf.out]; rfl) (by rw [hf.out]; rfl), HB.out⟩

def allF : List ByteArray → Option (List Int)
  | [] => some []
  | s :: l => match oneF s with | some n => (allF l).map (n :: ·) | none => none
def zl (p : Option (List Int)) : List Int := p.getD []
theorem allF_end (l : List ByteArray) (k : Nat) (r : List Int) (h : ¬ k < l.length) : (allF (l.drop k)).map (r ++ ·) = some r := by
  rw [List.drop_eq_nil_of_le (by omega)]; simp [allF]
theorem allF_no (l : List ByteArray) (k : Nat) (r : List Int) (h : k < l.length) (ho : oneF l[k] = none) : (allF (l.drop k)).map (r ++ ·) = none := by
  rw [List.drop_eq_getElem_cons h]; simp [allF, ho]
theorem allF_yes (l : List ByteArray) (k : Nat) (r : List Int) (n : Int) (h : k < l.length) (ho : oneF l[k] = some n) : (allF (l.drop k)).map (r ++ ·) = (allF (l.drop (k + 1))).map ((r ++ [n]) ++ ·) := by
  rw [List.drop_eq_getElem_cons h]
  simp only [allF, ho]
  cases allF (l.drop (k + 1)) <;> simp
theorem allF_start (l : List ByteArray) : allF l = (allF (l.drop 0)).map (([] : List Int) ++ ·) := by cases h : allF l <;> simp [h]
def E5 (p : Option (List Int)) (v : Value) (base : Nat) (e : Ending) (w : World) : Prop := e = .returned (.tuple #[v, .int .i64 (e5 p)]) ∧ Ow (Kd.int .i64) 3 base v (zl p) w

set_option maxHeartbeats 2000000 in
theorem All (v : Value) (x : V) (w : World) (hG : G w) (hv : IsVal w v x) (hn : x.el.length ≤ 4294967296) :
    Calls Tryz.prog 9 #[v] w fun e w' => (∃ u, E5 (allF x.el) u w.heap.size e w') ∧ Below w.heap.size w w' := by
  obtain ⟨a, b, rfl, ⟨A, c, rfl, hc, hr⟩, ⟨B, d, rfl, hd, hs⟩⟩ := hv
  have HG := Lib.hid hG
  have HS := Lib.hid hs
  clear hG hs hr
  go_enter Tryz.func9, Tryz.ntmps9
  go_wp2_with fail
  go_loopw [4, 12] (fun lv i wr => ∃ (k : Nat) (r : List Int), k ≤ x.el.length ∧ i = .int .i64 k ∧ Ow (Kd.int .i64) 3 w.heap.size lv r wr ∧ r.length ≤ k ∧ Hid (allF x.el = (allF (x.el.drop k)).map (r ++ ·)) ∧ Below w.heap.size w wr) (fun _ i _ => x.el.length - (intOf i).toNat)
  case atStart => exact ⟨0, [], Nat.zero_le _, rfl, ⟨Kd.R_nil _ _ _ _ _⟩, Nat.le_refl _, allF_start _, below_alloc (Below.refl _ _) _⟩
  case round =>
    obtain ⟨k, r, hk, rfl, HO, hrk, hi, hb⟩ := hrel
    by_cases hlt : k < x.el.length
    · obtain ⟨ad, hA, hcell⟩ := C_cell (Kd.C_below HS.out hb) k hlt
      subst hA
      have hd' : decide (k < x.el.length) = true := by simpa using hlt
      have c1 := Lib.hid (one x.el[k] wr (HG.out.below hb))
      have HB := Lib.hid hb; clear hb
      cases ho : oneF x.el[k] with
      | none =>
        have hq := Lib.hid (hi.out.trans (allF_no _ k r hlt ho))
        rw [ho, show e5 (none : Option Int) = 5 from rfl, show z0 none = 0 from rfl] at c1; clear ho
        go_wp2_with fail
        refine c1.out.mono ?_
        rintro e w1 ⟨rfl, hb⟩
        have HB2 := Lib.hid (HB.out.trans (hb.mono HB.out.size)); clear hb
        go_wp2
        go_ret2
        refine ⟨⟨.slice none 0 0, ?_⟩, HB2.out⟩
        rw [hq.out]
        exact ⟨rfl, ⟨Kd.R_nil _ _ _ _ _⟩⟩
      | some n =>
        have hq := Lib.hid (hi.out.trans (allF_yes _ k r n hlt ho))
        rw [ho, show e5 (some n) = 0 from rfl, show z0 (some n) = n from rfl] at c1; clear ho
        go_wp2_with fail
        refine c1.out.mono ?_
        rintro e w1 ⟨rfl, hb⟩
        have HB2 := Lib.hid (HB.out.trans (hb.mono HB.out.size))
        have HO2 := Ow.mk (Kd.R_below HO.out hb)
        clear hb
        go_wp2_with (at_builtin; go_must (refine Kd.R_append (Kd.int .i64) (w0 := w) w.heap.size rfl (.tmp 24) (.tmp 26) 22 3 (.int .i64 0) 8 rfl Tryz.underlying22 info_int rfl (by decide) (by omega) _ r n [.int .i64 n] (fun _ => True) (fun _ => False) rfl rfl rfl (fun _ hk => hk.elim) (fun _ _ => trivial) HO2.out HB2.out HB2.out.size (by omega) ?_); intro v1 w2 hR hb _ _; have HO3 := Ow.mk hR; have HB3 := Lib.hid hb; clear hR hb HO2 HO HB2 HB)
        go_roundw
        case rel => exact ⟨k + 1, r ++ [n], by omega, by go_num, HO3, by simp; omega, hq.out, HB3.out⟩
        case measure => simp [intOf]; omega
    · have hd' : decide (k < x.el.length) = false := by simpa using hlt
      have hq := Lib.hid (hi.out.trans (allF_end _ k r hlt))
      have HB := Lib.hid hb; clear hb
      go_wp2
      go_ret2
      have hE : ∀ v, Ow (Kd.int .i64) 3 w.heap.size v r wr → E5 (allF x.el) v w.heap.size (.returned (.tuple #[v, .int .i64 0])) wr := fun v h => by rw [hq.out]; exact ⟨rfl, h⟩
      exact ⟨⟨_, hE _ HO⟩, HB.out⟩

def OwnVal (base : Nat) (v : Value) (x : V) (w : World) : Prop := ∃ a b, v = .agg #[a, b] ∧ Ow (Kd.int .i64) 3 base a x.sh w ∧ Ow Kd.string 9 base b x.el w
theorem OwnVal.isVal {base : Nat} {v : Value} {x : V} {w : World} (h : OwnVal base v x w) : IsVal w v x := by
  obtain ⟨a, b, rfl, h1, h2⟩ := h
  exact ⟨a, b, rfl, h1.row, h2.row⟩
theorem OwnVal.below {base : Nat} {v : Value} {x : V} {w w1 : World} (h : OwnVal base v x w) (hb : Below w.heap.size w w1) : OwnVal base v x w1 := by
  obtain ⟨a, b, rfl, h1, h2⟩ := h
  exact ⟨a, b, rfl, h1.below hb, h2.below hb⟩
theorem OwnVal.lower {base base' : Nat} {v : Value} {x : V} {w : World} (h : OwnVal base v x w) (hb : base' ≤ base) : OwnVal base' v x w := by
  obtain ⟨a, b, rfl, h1, h2⟩ := h
  exact ⟨a, b, rfl, h1.lower hb, h2.lower hb⟩
/-- A result of type Val is stored into its two cells. -/
theorem fin2 {W w1 : World} {g : Nat} {a b : Value} {x : V} {cs : Array Value} (h0 : w1.heap[g]? = some (.cells cs 25 (0, 0))) (h1 : Ow (Kd.int .i64) 3 W.heap.size a x.sh w1) (h2 : Ow Kd.string 9 W.heap.size b x.el w1) (hb : Below W.heap.size W w1) (hg : W.heap.size ≤ g) :
    OwnVal W.heap.size (.agg #[a, b]) x ((w1.setCell ⟨g, 0, none⟩ a).setCell ⟨g, 1, none⟩ b) ∧ Below W.heap.size W ((w1.setCell ⟨g, 0, none⟩ a).setCell ⟨g, 1, none⟩ b) := by
  have hi : ∀ q, q ∈ 3 :: (Kd.int .i64).E → q ≠ 25 := by intro q hq; rcases List.mem_cons.1 hq with rfl | hq; decide; cases hq
  have hs : ∀ q, q ∈ 9 :: Kd.string.E → q ≠ 25 := by intro q hq; rcases List.mem_cons.1 hq with rfl | hq; decide; cases hq
  have h3 := blk_set h0 0 a
  exact ⟨⟨a, b, rfl, (h1.set h0 hi 0 a).set h3 hi 1 b, (h2.set h0 hs 0 a).set h3 hs 1 b⟩, (hb.setCell (p := ⟨g, 0, none⟩) hg a).setCell (p := ⟨g, 1, none⟩) hg b⟩
theorem own_one (W : World) (base : Nat) (n : Int) (hb : base ≤ W.heap.size) : Ow (Kd.int .i64) 3 base (.slice (some ⟨W.heap.size, 0, none⟩) 1 1) [n] (W.alloc (.cells #[.int .i64 n] 3)) :=
  ⟨⟨fun _ _ => trivial, OwnRow.lit (ps := [n]) (inner := [.int .i64 n]) W base ((Reps.none _ _).snoc (p := n) (c := [.int .i64 n]) rfl rfl) hb (by simp)⟩⟩

set_option maxHeartbeats 1000000 in
theorem Vector (v : Value) (l : List ByteArray) (w : World) (hv : IsRow Kd.string w v l) (hn : l.length ≤ 4294967296) :
    Calls Tryz.prog 29 #[v] w fun e w' => ∃ u, e = .returned u ∧ OwnVal w.heap.size u ⟨[(l.length : Int)], l⟩ w' ∧ Below w.heap.size w w' := by
  obtain ⟨A, c, rfl, hc, hr⟩ := hv
  have HR := Lib.hid (Kd.C_below hr (below_alloc (below_alloc (Below.refl w.heap.size w) (.cells #[.slice none 0 0, .slice none 0 0] 25)) (.cells #[.int .i64 l.length] 3)))
  clear hr
  go_enter Tryz.func29, Tryz.ntmps29
  go_wp2_with fail
  refine (Clone_str A c l _ HR.out hc hn).mono ?_
  rintro e w1 ⟨u, rfl, ho, hb⟩
  have h0 := blk_below (blk_alloc (blk_new w (.cells #[.slice none 0 0, .slice none 0 0] 25)) (.cells #[.int .i64 l.length] 3)) hb
  have hO := (own_one (w.alloc (.cells #[.slice none 0 0, .slice none 0 0] 25)) w.heap.size l.length (by simp)).below hb
  rw [World.size_alloc] at hO
  have hW := below_alloc (below_alloc (Below.refl w.heap.size w) (.cells #[.slice none 0 0, .slice none 0 0] 25)) (.cells #[.int .i64 l.length] 3)
  have HF := Lib.hid (fin2 (x := ⟨[(l.length : Int)], l⟩) h0 hO (ho.lower hW.size) (hW.trans (hb.mono hW.size)) (Nat.le_refl _))
  have k0 : w1.cell? ⟨w.heap.size, 0, none⟩ = some (.slice none 0 0) := blk_cell h0 0
  have k1 : w1.cell? ⟨w.heap.size, 1, none⟩ = some (.slice none 0 0) := blk_cell h0 1
  obtain ⟨A', c', rfl, -⟩ := ho.row
  have f0 := blk_frozen h0 0
  have f1 := blk_frozen h0 1
  clear hb ho hO h0
  go_wp2
  refine bodyPost_ret (v := .agg #[.slice (some ⟨w.heap.size + 1, 0, none⟩) 1 1, .slice A' l.length c']) (by simp [results, Tryz.results29, go_sem, k0, k1]) rfl ?_
  exact ⟨_, rfl, HF.out⟩

theorem info_str : (Tryz.prog.info? 9).map (fun i => (i.zero, i.size, i.bytes)) = some (some (.string ⟨#[]⟩), 1, 16) := info_string
def I64 (l : List Int) : Prop := ∀ x ∈ l, -9223372036854775808 ≤ x ∧ x ≤ 9223372036854775807
theorem map_snoc (l : List Int) (k : Nat) (h : k < l.length) : (l.take k).map ofF ++ [ofF l[k]] = (l.take (k + 1)).map ofF := by
  rw [List.take_succ_eq_append_getElem h, List.map_append]; rfl

set_option maxHeartbeats 2000000 in
theorem Ints (v : Value) (l : List Int) (w : World) (hG : G w) (hv : IsRow (Kd.int .i64) w v l) (hI : I64 l) (hn : l.length ≤ 4294967296) :
    Calls Tryz.prog 18 #[v] w fun e w' => ∃ u, e = .returned u ∧ OwnVal w.heap.size u ⟨[(l.length : Int)], l.map ofF⟩ w' ∧ Below w.heap.size w w' := by
  obtain ⟨A, c, rfl, hc, hr⟩ := hv
  have HG := Lib.hid hG
  have HR := Lib.hid hr
  have HI := Lib.hid hI
  clear hG hr hI
  go_enter Tryz.func18, Tryz.ntmps18
  go_wp2_with fail
  go_loopw [3, 8] (fun lv i wr => ∃ k : Nat, k ≤ l.length ∧ i = .int .i64 k ∧ Ow Kd.string 9 w.heap.size lv ((l.take k).map ofF) wr ∧ Hid (wr.heap[w.heap.size]? = some (.cells #[.slice none 0 0, .slice none 0 0] 25 (0, 0))) ∧ Below w.heap.size w wr) (fun _ i _ => l.length - (intOf i).toNat)
  case atStart => exact ⟨0, Nat.zero_le _, rfl, ⟨Kd.R_nil _ _ _ _ _⟩, blk_new w _, below_alloc (Below.refl _ _) _⟩
  case round =>
    obtain ⟨k, hk, rfl, HO, hbox, hb⟩ := hrel
    have hlen : ((l.take k).map ofF).length ≤ k := by simp; omega
    by_cases hlt : k < l.length
    · obtain ⟨ad, hA, hcell⟩ := C_cell (Kd.C_below HR.out hb) k hlt
      subst hA
      have hd' : decide (k < l.length) = true := by simpa using hlt
      have c1 := Lib.hid (Of l[k] wr (HG.out.below hb) (HI.out _ (List.getElem_mem _)).1 (HI.out _ (List.getElem_mem _)).2)
      have HB := Lib.hid hb; clear hb
      have hq := Lib.hid (map_snoc l k hlt)
      go_wp2_with fail
      refine c1.out.mono ?_
      rintro e w1 ⟨rfl, hb⟩
      have HB2 := Lib.hid (HB.out.trans (hb.mono HB.out.size))
      have HO2 := Ow.mk (Kd.R_below HO.out hb)
      have hbox2 := Lib.hid (blk_below hbox.out hb)
      clear hb HO hbox HB
      go_wp2_with (at_builtin; go_must (refine Kd.R_append Kd.string (w0 := w) w.heap.size rfl (.tmp 12) (.tmp 15) 23 9 (.string ⟨#[]⟩) 16 rfl Tryz.underlying23 info_string rfl (by decide) (by omega) _ ((l.take k).map ofF) (ofF l[k]) [.string (ofF l[k])] (fun _ => True) (fun _ => False) rfl rfl rfl (fun _ hk => hk.elim) (fun _ _ => trivial) HO2.out HB2.out HB2.out.size (by omega) ?_); intro v1 w2 hR hb hg _; have HO3 := Ow.mk hR; have HB3 := Lib.hid hb; have hbox3 := Lib.hid (blk_grown hbox2.out hg (Kd.R_ne HO2.out hbox2.out (by decide))); clear hR hb HO2 HB2 hbox2 hg)
      go_roundw
      case rel => exact ⟨k + 1, by omega, by go_num, by rw [← hq.out]; exact HO3, hbox3, HB3.out⟩
      case measure => simp [intOf]; omega
    · have hd' : decide (k < l.length) = false := by simpa using hlt
      have ht : l.take k = l := List.take_of_length_le (by omega)
      rw [ht] at HO
      clear ht hlen
      have HB := Lib.hid hb; clear hb
      have c1 := Lib.hid (fun (v : Value) (h : Ow Kd.string 9 w.heap.size v (l.map ofF) wr) => Vector v (l.map ofF) wr h.row (by simpa using hn))
      go_wp2_with fail
      refine (c1.out _ HO).mono ?_
      rintro e w1 ⟨u, rfl, hu, hb⟩
      have hbox2 := blk_below hbox.out hb
      have k0 : w1.cell? ⟨w.heap.size, 0, none⟩ = some (.slice none 0 0) := blk_cell hbox2 0
      have k1 : w1.cell? ⟨w.heap.size, 1, none⟩ = some (.slice none 0 0) := blk_cell hbox2 1
      have f0 := blk_frozen hbox2 0
      have f1 := blk_frozen hbox2 1
      obtain ⟨a, b, rfl, ha, hbb⟩ := hu
      have HF := Lib.hid (fin2 (x := ⟨[(l.length : Int)], l.map ofF⟩) hbox2 (by simpa using ha.lower HB.out.size) (hbb.lower HB.out.size) (HB.out.trans (hb.mono HB.out.size)) (Nat.le_refl _))
      obtain ⟨A1, d1, rfl, -⟩ := ha.row
      obtain ⟨A2, d2, rfl, -⟩ := hbb.row
      clear hb ha hbb hbox hbox2 HO c1
      simp only [List.length_map, List.length_cons, List.length_nil, Nat.zero_add] at HF
      go_wp2
      refine bodyPost_ret (v := .agg #[.slice A1 1 d1, .slice A2 l.length d2]) (by simp [results, Tryz.results18, go_sem, k0, k1]) rfl ?_
      exact ⟨_, rfl, HF.out⟩
end Go.Proofs.YthjcnifdlfjieaaGreatDoor.Hg
