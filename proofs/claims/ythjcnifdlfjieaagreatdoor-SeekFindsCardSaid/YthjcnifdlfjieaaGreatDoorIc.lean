import Derived.Test.YthjcnifdlfjieaaGreatDoorIb
set_option linter.unusedVariables false
set_option linter.unusedSimpArgs false
namespace Go.Proofs.YthjcnifdlfjieaaGreatDoor.Ic
open Go.RowKit Go.Shelf Go.Proofs.YthjcnifdlfjieaaGreatDoorW.PrintWords Go.Proofs.YthjcnifdlfjieaaGreatDoor.Ha Go.Proofs.YthjcnifdlfjieaaGreatDoor.Hb Go.Proofs.YthjcnifdlfjieaaGreatDoor.Hc Go.Proofs.YthjcnifdlfjieaaGreatDoor.Hp Go.Proofs.YthjcnifdlfjieaaGreatDoor.Hd Go.Proofs.YthjcnifdlfjieaaGreatDoor.He Go.Proofs.YthjcnifdlfjieaaGreatDoor.Hf Go.Proofs.YthjcnifdlfjieaaGreatDoor.Hg Go.Proofs.YthjcnifdlfjieaaGreatDoor.Hh Go.Proofs.YthjcnifdlfjieaaGreatDoor.Hi Go.Proofs.YthjcnifdlfjieaaGreatDoor.Hm Go.Proofs.YthjcnifdlfjieaaGreatDoor.Hj Go.Proofs.YthjcnifdlfjieaaGreatDoor.Hk Go.Proofs.YthjcnifdlfjieaaGreatDoor.Hl Go.Proofs.YthjcnifdlfjieaaGreatDoor.Hn Go.Proofs.YthjcnifdlfjieaaGreatDoor.Ho Go.Proofs.YthjcnifdlfjieaaGreatDoor.Hq Go.Proofs.YthjcnifdlfjieaaGreatDoor.Hr Go.Proofs.YthjcnifdlfjieaaGreatDoor.Hs Go.Proofs.YthjcnifdlfjieaaGreatDoor.Ht Go.Proofs.YthjcnifdlfjieaaGreatDoor.Hu Go.Proofs.YthjcnifdlfjieaaGreatDoor.Hv Go.Proofs.YthjcnifdlfjieaaGreatDoor.Hw Go.Proofs.YthjcnifdlfjieaaGreatDoor.Hx Go.Proofs.YthjcnifdlfjieaaGreatDoor.Hy Go.Proofs.YthjcnifdlfjieaaGreatDoor.Ia Go.Proofs.YthjcnifdlfjieaaGreatDoor.Ib

def wf : List Int → Nat → List Int
  | [], _ => []
  | n :: l, k => List.replicate n.toNat (k : Int) ++ wf l (k + 1)
theorem wf_at (l : List Int) (k : Nat) (h : k < l.length) : wf (l.drop k) k = List.replicate l[k].toNat (k : Int) ++ wf (l.drop (k + 1)) (k + 1) := by
  rw [List.drop_eq_getElem_cons h]; rfl
theorem wf_len (l : List Int) (k : Nat) (h : k < l.length) : (wf (l.drop k) k).length = l[k].toNat + (wf (l.drop (k + 1)) (k + 1)).length := by
  rw [wf_at l k h]; simp
theorem wf_end (l : List Int) (k : Nat) (h : ¬ k < l.length) : wf (l.drop k) k = [] := by
  rw [List.drop_eq_nil_of_le (by omega)]; rfl
theorem wf_bound (l : List Int) (M : Nat) : ∀ k, (∀ x ∈ wf l k, x < (k + l.length : Nat) ∧ 0 ≤ x) := by
  induction l with
  | nil => intro k x hx; simp [wf] at hx
  | cons n l ih =>
    intro k x hx
    simp only [wf, List.mem_append, List.mem_replicate] at hx
    rcases hx with ⟨_, rfl⟩ | hx
    · simp; omega
    · have := ih (k + 1) x hx
      simp at this ⊢; omega

set_option maxRecDepth 100000 in
set_option maxHeartbeats 4000000 in
theorem Where_ok (u : Value) (x : V) (l : List Int) (w : World) (hG : G w) (hv : IsVal w u x) (hn : x.el.length ≤ 4294967295) (hf : fineF x [] = 0) (ha : allF x.el = some l) (h0 : ∀ y ∈ l, 0 ≤ y) (h1 : (wf l 0).length ≤ 4096) :
    Calls Tryz.prog 19 #[u] w fun e w' => RV w.heap.size (⟨[((wf l 0).length : Int)], (wf l 0).map ofF⟩, 0) e w' ∧ Below w.heap.size w w' := by
  obtain ⟨a, b, rfl, ⟨A, c, rfl, hc, hr⟩, ⟨B, d, rfl, hd, hs⟩⟩ := id hv
  have hW := below_alloc (below_alloc (Below.refl w.heap.size w) (.cells #[.slice A x.sh.length c, .slice B x.el.length d] 25)) (.cells #[.slice none 0 0, .slice none 0 0] 25)
  have c1 := Lib.hid (fine _ (.slice none 0 0) x [] _ (hv.below hW) (isVals_nil _))
  have c2 := Lib.hid (fun (W : World) (h : Below w.heap.size w W) => All _ x W (hG.below h) (hv.below h) (by omega))
  have b0 := Lib.hid (blk_alloc (blk_new w (.cells #[.slice A x.sh.length c, .slice B x.el.length d] 25)) (.cells #[.slice none 0 0, .slice none 0 0] 25))
  have b1 := blk_new (w.alloc (.cells #[.slice A x.sh.length c, .slice B x.el.length d] 25)) (.cells #[.slice none 0 0, .slice none 0 0] 25)
  simp only [World.size_alloc] at b1
  have B1 := Lib.hid b1
  have HW := Lib.hid hW
  have HG := Lib.hid hG
  have H0 := Lib.hid h0
  have hll : l.length ≤ 4294967295 := by have := allF_len x.el l ha; omega
  have HI : Hid (I64 (wf l 0)) := by
    intro y hy
    have := wf_bound l 0 0 y hy
    simp at this
    omega
  rw [hf] at c1
  rw [ha] at c2
  clear hr hs hW hv b1 hG hf ha h0
  go_enter Tryz.func19, Tryz.ntmps19
  go_wp2_with fail
  refine c1.out.mono ?_
  rintro e w1 ⟨rfl, hb⟩
  have b01 := Lib.hid (blk_below b0.out hb)
  have b11 := Lib.hid (blk_below B1.out (hb.mono (by simp)))
  have HB := Lib.hid (HW.out.trans (hb.mono (by have := HW.out.size; simp at this ⊢; omega)))
  have k0 : w1.cell? ⟨w.heap.size, 0, none⟩ = some (.slice A x.sh.length c) := blk_cell b01.out 0
  have k1 : w1.cell? ⟨w.heap.size, 1, none⟩ = some (.slice B x.el.length d) := blk_cell b01.out 1
  clear hb
  go_wp2_with fail
  refine (c2.out _ HB.out).mono ?_
  rintro e w2 ⟨⟨u2, rfl, ho⟩, hb⟩
  obtain ⟨A2, d2, rfl, hd2, hC2⟩ := ho.row
  have HC2 := Lib.hid hC2
  have b12 := Lib.hid (blk_below b11.out hb)
  have HB2 := Lib.hid (HB.out.trans (hb.mono HB.out.size))
  have el2 : (zl (some l)).length = l.length := rfl
  have ez2 : e5 (some l) = 0 := rfl
  rw [el2, ez2]
  rw [el2] at hC2
  clear hb ho hC2 k0 k1 el2 ez2
  have hz4 : Hid ((wf l 0).length = 0 + (wf (l.drop 0) 0).length) := by show _ = _; simp
  go_wp2_with fail
  go_loop [7, 9, 30] (fun s _ i => ∃ (k t : Nat), k ≤ l.length ∧ i = .int .i64 (k : Int) ∧ s = .int .i64 (t : Int) ∧ Hid ((wf l 0).length = t + (wf (l.drop k) k).length)) (fun _ _ i => l.length - (intOf i).toNat)
  case atStart => exact ⟨0, 0, Nat.zero_le _, rfl, rfl, hz4.out⟩
  case round =>
    obtain ⟨k, t, hk, rfl, rfl, hi⟩ := hrel
    by_cases hlt : k < l.length
    · obtain ⟨ad, hA, hcell⟩ := C_cell (show Kd.C (Kd.int .i64) w2 A2 l.length l from HC2.out) k hlt
      subst hA
      have hd1 : decide (k < l.length) = true := by simpa using hlt
      obtain ⟨z, hz⟩ : ∃ z, l[k] = z := ⟨_, rfl⟩
      have hz0 : 0 ≤ z := hz ▸ H0.out _ (List.getElem_mem _)
      have hle := wf_len l k hlt
      rw [hz] at hcell hle
      have hb1 : (t : Int) + z ≤ 4096 := by have := hi.out; omega
      have hnx : Hid ((wf l 0).length = (t + z.toNat) + (wf (l.drop (k + 1)) (k + 1)).length) := by have := hi.out; show _ = _; omega
      have hmin : min ((t : Int) + z) 4097 = (t : Int) + z := by omega
      have hzz : decide (z < 0) = false := by simp; omega
      have htz : (t : Int) + z = ((t + z.toNat : Nat) : Int) := by omega
      have HTZ := Lib.hid htz
      clear hle hz hi htz
      go_wp2
      go_round
      case rel => exact ⟨k + 1, t + z.toNat, by omega, by go_num, by rw [HTZ.out], hnx.out⟩
      case measure => simp [intOf]; omega
    · have hd1 : decide (k < l.length) = false := by simpa using hlt
      have htt : t = (wf l 0).length := by have := hi.out; rw [wf_end l k hlt] at this; simpa using this.symm
      subst htt
      have hdd : decide (4096 < (((wf l 0).length : Nat) : Int)) = false := by simp; omega
      have hz5 : Hid (wf l 0 = [] ++ wf (l.drop 0) 0) := by show _ = _; simp
      clear hlt hi
      go_wp2_with fail
      go_loopw [10, 11, 12, 47] (fun o _ _ i wr => ∃ (k : Nat) (r : List Int), k ≤ l.length ∧ i = .int .i64 (k : Int) ∧ Ow KI 3 w2.heap.size o r wr ∧ Hid (wf l 0 = r ++ wf (l.drop k) k) ∧ Hid (Below w2.heap.size w2 wr)) (fun _ _ _ i _ => l.length - (intOf i).toNat)
      case atStart => exact ⟨0, [], Nat.zero_le _, rfl, own_nilI _ _, hz5.out, Below.refl _ _⟩
      case round =>
        obtain ⟨k, r, hk, rfl, ho, hi, hb⟩ := hrel
        have HO := Lib.hid ho
        clear ho
        by_cases hlt : k < l.length
        · obtain ⟨ad, hA, hcell⟩ := C_cell (Kd.C_below (show Kd.C (Kd.int .i64) w2 A2 l.length l from HC2.out) hb.out) k hlt
          subst hA
          have hd1 : decide (k < l.length) = true := by simpa using hlt
          obtain ⟨z, hz⟩ : ∃ z, l[k] = z := ⟨_, rfl⟩
          have hz0 : 0 ≤ z := hz ▸ H0.out _ (List.getElem_mem _)
          obtain ⟨m, rfl⟩ := Int.eq_ofNat_of_zero_le hz0
          have hat := wf_at l k hlt
          rw [hz, Int.toNat_natCast] at hat
          rw [hz] at hcell
          have hln : r.length + m + (wf (l.drop (k + 1)) (k + 1)).length = (wf l 0).length := by have := hi.out; rw [hat] at this; rw [this]; simp [Nat.add_assoc]
          have hnx : Hid (wf l 0 = (r ++ List.replicate m (k : Int)) ++ wf (l.drop (k + 1)) (k + 1)) := by show _ = _; rw [hi.out, hat, List.append_assoc]
          have hrm : r.length + m ≤ 4096 := by omega
          have cR := Lib.hid (Repeat1 (some ⟨wr.heap.size, 0, none⟩) 1 (k : Int) m (wr.alloc (.cells #[.int .i64 (k : Int)] 3)) (by obtain ⟨A', c', e', _, hC'⟩ := (own_one wr w2.heap.size (k : Int) hb.out.size).row; injection e' with e1 e2 e3; subst e1; exact hC') (by omega))
          clear hat hln hz
          go_wp2_with fail
          refine cR.out.mono ?_
          rintro e w3 ⟨v3, rfl, ho3, hb3⟩
          obtain ⟨A4, c4, rfl, hc4, hC4⟩ := ho3.row
          have hrl : (List.replicate m (k : Int)).length = m := by simp
          rw [hrl] at hC4
          rw [hrl]
          have HC4 := Lib.hid hC4
          have hb3' : Below wr.heap.size wr w3 := (below_alloc (Below.refl wr.heap.size wr) (.cells #[.int .i64 (k : Int)] 3)).trans (hb3.mono (by simp))
          have HO3 := Lib.hid (HO.out.below hb3')
          have HB3 := Lib.hid (hb.out.trans (hb3'.mono hb.out.size))
          clear ho3 hC4 hb3 hb3' hrl cR
          go_wp2_with (at_builtin; go_must (refine Kd.R_append_row (Value.int .i64) 0 w2.heap.size rfl (.tmp 52) (.tmp 56) 22 3 (.int .i64 0) 8 rfl Tryz.underlying22 info_int rfl (by omega) _ r (List.replicate m (k : Int)) A4 m c4 (fun _ => True) rfl rfl (fun _ _ => trivial) HO3.out.out HC4.out HB3.out (HB3.out.size) (by omega) ?_); intro v5 w5 hR hb5 _ _; have HO5 := Lib.hid (Ow.mk hR); have HB5 := Lib.hid hb5; clear hR hb5)
          go_roundw
          case rel => exact ⟨k + 1, r ++ List.replicate m (k : Int), by omega, by go_num, HO5.out, hnx.out, HB5.out⟩
          case measure => simp [intOf]; omega
        · have hd1 : decide (k < l.length) = false := by simpa using hlt
          have hrr : r = wf l 0 := by have := hi.out; rw [wf_end l k hlt, List.append_nil] at this; exact this.symm
          subst hrr
          have HBw := Lib.hid (HB2.out.trans (hb.out.mono HB2.out.size))
          have cI := Lib.hid (fun (v : Value) (h : Ow KI 3 w2.heap.size v (wf l 0) wr) => Ints v (wf l 0) wr (HG.out.below HBw.out) h.row HI.out (by omega))
          have b22 := Lib.hid ((hb.out.block _ (blk_lt b12.out)).trans b12.out)
          clear hlt hi
          go_wp2_with fail
          refine (cI.out _ HO.out).mono ?_
          rintro e w3 ⟨u3, rfl, hu, hb5⟩
          have hbox2 := blk_below b22.out hb5
          have k0 : w3.cell? ⟨w.heap.size + 1, 0, none⟩ = some (.slice none 0 0) := blk_cell hbox2 0
          have k1 : w3.cell? ⟨w.heap.size + 1, 1, none⟩ = some (.slice none 0 0) := blk_cell hbox2 1
          have f0 := blk_frozen hbox2 0
          have f1 := blk_frozen hbox2 1
          obtain ⟨a5, b5, rfl, ha5, hbb5⟩ := hu
          have HF := Lib.hid (fin2 (W := w) (x := ⟨[((wf l 0).length : Int)], (wf l 0).map ofF⟩) hbox2 (ha5.lower HBw.out.size) (hbb5.lower HBw.out.size) (HBw.out.trans (hb5.mono HBw.out.size)) (by omega))
          obtain ⟨A6, d6, rfl, -⟩ := ha5.row
          obtain ⟨A7, d7, rfl, -⟩ := hbb5.row
          clear hb5 ha5 hbb5 hbox2 cI
          simp only [List.length_map, List.length_cons, List.length_nil, Nat.zero_add] at HF ⊢
          go_wp2
          refine bodyPost_ret (v := .tuple #[.agg #[.slice A6 1 d6, .slice A7 (wf l 0).length d7], .int .i64 0]) (by simp [results, Tryz.results19, go_sem, k0, k1]) rfl ?_
          exact ⟨⟨_, rfl, HF.out.1⟩, HF.out.2⟩
end Go.Proofs.YthjcnifdlfjieaaGreatDoor.Ic
