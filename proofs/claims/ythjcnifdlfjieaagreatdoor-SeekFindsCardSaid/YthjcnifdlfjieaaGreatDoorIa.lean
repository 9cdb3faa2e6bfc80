import Derived.Test.YthjcnifdlfjieaaGreatDoorHy
set_option linter.unusedVariables false
set_option linter.unusedSimpArgs false
namespace Go.Proofs.YthjcnifdlfjieaaGreatDoor.Ia
open Go.RowKit Go.Shelf Go.Proofs.YthjcnifdlfjieaaGreatDoorW.PrintWords Go.Proofs.YthjcnifdlfjieaaGreatDoor.Ha Go.Proofs.YthjcnifdlfjieaaGreatDoor.Hb Go.Proofs.YthjcnifdlfjieaaGreatDoor.Hc Go.Proofs.YthjcnifdlfjieaaGreatDoor.Hp Go.Proofs.YthjcnifdlfjieaaGreatDoor.Hd Go.Proofs.YthjcnifdlfjieaaGreatDoor.He Go.Proofs.YthjcnifdlfjieaaGreatDoor.Hf Go.Proofs.YthjcnifdlfjieaaGreatDoor.Hg Go.Proofs.YthjcnifdlfjieaaGreatDoor.Hh Go.Proofs.YthjcnifdlfjieaaGreatDoor.Hi Go.Proofs.YthjcnifdlfjieaaGreatDoor.Hm Go.Proofs.YthjcnifdlfjieaaGreatDoor.Hj Go.Proofs.YthjcnifdlfjieaaGreatDoor.Hk Go.Proofs.YthjcnifdlfjieaaGreatDoor.Hl Go.Proofs.YthjcnifdlfjieaaGreatDoor.Hn Go.Proofs.YthjcnifdlfjieaaGreatDoor.Ho Go.Proofs.YthjcnifdlfjieaaGreatDoor.Hq Go.Proofs.YthjcnifdlfjieaaGreatDoor.Hs Go.Proofs.YthjcnifdlfjieaaGreatDoor.Ht Go.Proofs.YthjcnifdlfjieaaGreatDoor.Hu Go.Proofs.YthjcnifdlfjieaaGreatDoor.Hv Go.Proofs.YthjcnifdlfjieaaGreatDoor.Hw Go.Proofs.YthjcnifdlfjieaaGreatDoor.Hx Go.Proofs.YthjcnifdlfjieaaGreatDoor.Hy

def b30 : ByteArray := ofF 30
def b10 : ByteArray := ofF 10
def b20 : ByteArray := ofF 20
structure Three (a : ByteArray) (n : Int) : Prop where
  sm : Small a n
  may : mayB a = true
def xL : List ByteArray := [b30, b10, b20]
def key3 (k : Nat) : Int := match k with | 0 => 30 | 1 => 10 | _ => 20
structure Keys : Prop where
  at3 : ∀ (k : Nat) (h : k < xL.length), Three xL[k] (key3 k)
theorem key_cf (i k : Nat) (hi : i < 3) (hk : k < 3) : cf (i : Int) (k : Int) = cmpI (key3 i) (key3 k) := by
  rcases (show i = 0 ∨ i = 1 ∨ i = 2 by omega) with rfl | rfl | rfl <;> rcases (show k = 0 ∨ k = 1 ∨ k = 2 by omega) with rfl | rfl | rfl <;> rfl
theorem key_ne (i k : Nat) (hi : i < 3) (hk : k < 3) (h : i ≠ k) : key3 i ≠ key3 k := by
  rcases (show i = 0 ∨ i = 1 ∨ i = 2 by omega) with rfl | rfl | rfl <;> rcases (show k = 0 ∨ k = 1 ∨ k = 2 by omega) with rfl | rfl | rfl <;> first | (exact absurd rfl h) | decide

/-- The comparison of the three elements. -/
theorem ordCF (HK : Keys) (g bv bc : Nat) (A : Option Addr) (sh : Value) (d : Nat) (W0 : World) (hbv : bv < g) (hbc : bc < g) (hg : g ≤ W0.heap.size)
    (h0 : W0.heap[bv]? = some (.cells #[sh, .slice A 3 d] 25 (0, 0))) (h1 : W0.heap[bc]? = some (.cells #[.func (.func 46) #[] #[]] 71 (0, 0)))
    (hc : ∀ W, Below g W0 W → Kd.C Kd.string W A xL.length xL) :
    CF g 69 #[.pointer (some ⟨bc, 0, none⟩), .pointer (some ⟨bv, 0, none⟩)] cf W0 := by
  intro x y W1 hW x0 x3 y0 y3 hne
  obtain ⟨i, rfl⟩ : ∃ i : Nat, x = i := ⟨x.toNat, by omega⟩
  obtain ⟨k, rfl⟩ : ∃ k : Nat, y = k := ⟨y.toNat, by omega⟩
  have hi : i < xL.length := by show i < 3; omega
  have hk : k < xL.length := by show k < 3; omega
  obtain ⟨ad, rfl, c1⟩ := C_cell (hc W1 hW) i hi
  obtain ⟨ad', e, c2⟩ := C_cell (hc W1 hW) k hk
  injection e with e
  subst e
  have e0 : W1.heap[bv]? = W0.heap[bv]? := hW.block bv hbv
  have e1 : W1.heap[bc]? = W0.heap[bc]? := hW.block bc hbc
  have k0 : W1.cell? ⟨bv, 1, none⟩ = some (.slice (some ad) 3 d) := blk_cell (e0.trans h0) 1
  have k1 : W1.cell? ⟨bc, 0, none⟩ = some (.func (.func 46) #[] #[]) := blk_cell (e1.trans h1) 0
  rw [key_cf i k hi hk]
  exact ord1 bv bc ad 3 d i k xL[i] xL[k] _ _ W1 k1 k0 hi hk c1 c2 (HK.at3 i hi).sm (HK.at3 k hk).sm (HK.at3 i hi).may (HK.at3 k hk).may (key_ne i k hi hk (by omega))

def outL : Nat → List Int | 0 => [] | 1 => [1] | 2 => [1, 2] | _ => [1, 2, 0]
theorem own_fr {M g : Nat} {A : Option Addr} {v : Value} {l : List Int} {W W' : World} (h : Ow KI 3 M v l W) (hf : Fr g A W W') (hg : g < M) (hA : ∀ b, some b = A.map (·.block) → b < M) : Ow KI 3 M v l W' := by
  obtain ⟨h0, hr⟩ := Kd.own_of_R h.out
  refine ⟨Kd.R_of_own ⟨h0, ?_⟩ (fun _ _ => trivial)⟩
  rcases hr with hr | ⟨b, cap, cur, e, hb, hh, h1⟩
  · exact .inl hr
  · exact .inr ⟨b, cap, cur, e, hb, (hf.rest b (blk_lt hh) (by omega) (fun e => by have := hA b e; omega)).trans hh, h1⟩
theorem QA.kept {M g d : Nat} {A : Option Addr} {f : Value} {l : List Int} {W W' : World} (h : QA g A d f l W) (hb : Below M W W') (hg : g < M) (hA : ∀ b, some b = A.map (·.block) → b < M) : QA g A d f l W' := by
  refine ⟨(hb.block g hg).trans h.1, ?_⟩
  obtain ⟨h0, hr⟩ := Kd.own_of_R h.2.out
  refine ⟨Kd.R_of_own ⟨h0, ?_⟩ (fun _ _ => trivial)⟩
  rcases hr with hr | ⟨b, cap, cur, e, hb2, hh, h1⟩
  · exact .inl hr
  · refine .inr ⟨b, cap, cur, e, hb2, (hb.block b (hA b ?_)).trans hh, h1⟩
    injection e with e1 e2 e3
    rw [e1]; rfl
theorem row_lt {g d : Nat} {A : Option Addr} {f : Value} {l : List Int} {W : World} (h : QA g A d f l W) (hl : 0 < l.length) : ∀ b, some b = A.map (·.block) → b < W.heap.size := by
  obtain ⟨b, cur, rfl, _, _, hh, _⟩ := own_form h.2 hl
  intro b' e
  injection e with e
  subst e
  exact blk_lt hh
theorem outL_next (k : Nat) (h : k < 3) : outL k ++ [popX k] = outL (k + 1) := by
  rcases (show k = 0 ∨ k = 1 ∨ k = 2 by omega) with rfl | rfl | rfl <;> rfl
theorem outL_len (k : Nat) (h : k ≤ 3) : (outL k).length = k := by
  rcases (show k = 0 ∨ k = 1 ∨ k = 2 ∨ k = 3 by omega) with rfl | rfl | rfl | rfl <;> rfl
theorem popL_len (k : Nat) (h : k ≤ 3) : (popL k).length = 3 - k := by
  rcases (show k = 0 ∨ k = 1 ∨ k = 2 ∨ k = 3 by omega) with rfl | rfl | rfl | rfl <;> rfl
theorem asPop (x : Int) (W : World) : (Instr.typeAssert (.iface 3 (.int .i64 x)) 20 3 false).run Tryz.prog W = .ok (.int .i64 x) W := Hw.asInt x W

def x3 : V := ⟨[3], xL⟩
def r3 : V × Int := (⟨[3], [1, 2, 0].map ofF⟩, 0)
theorem popL_push (k : Nat) (h : k < 3) : pushL k = pushL k := rfl
theorem own_qs (g : Nat) (f : Value) (W : World) (h : W.heap[g]? = some (.cells #[.slice none 0 0, f] 92 (0, 0))) : QS g f [] W := ⟨none, 0, h, own_nilI _ _⟩
def popsN (v : Value) : Nat := match v with | .slice _ n _ => 3 - n | _ => 0

set_option maxRecDepth 100000 in
set_option maxHeartbeats 4000000 in
theorem order3 (HK : Keys) (u : Value) (w : World) (hG : G w) (hv : IsVal w u x3) (hf : fineF x3 [] = 0) :
    Calls Tryz.prog 45 #[u, .func (.func 46) #[] #[]] w fun e w' => RV w.heap.size r3 e w' ∧ Below w.heap.size w w' := by
  obtain ⟨a, b, rfl, ⟨A, c, rfl, hc, hr⟩, ⟨B, d, rfl, hd, hs⟩⟩ := id hv
  have hW := below_alloc (below_alloc (below_alloc (Below.refl w.heap.size w) (.cells #[.slice A x3.sh.length c, .slice B x3.el.length d] 25)) (.cells #[.func (.func 46) #[] #[]] 71)) (.cells #[.slice none 0 0, .slice none 0 0] 25)
  have c1 := Lib.hid (fine _ (.slice none 0 0) x3 [] _ (hv.below hW) (isVals_nil _))
  have b0 := Lib.hid (blk_alloc (blk_alloc (blk_new w (.cells #[.slice A x3.sh.length c, .slice B x3.el.length d] 25)) (.cells #[.func (.func 46) #[] #[]] 71)) (.cells #[.slice none 0 0, .slice none 0 0] 25))
  have b1 := blk_alloc (blk_new (w.alloc (.cells #[.slice A x3.sh.length c, .slice B x3.el.length d] 25)) (.cells #[.func (.func 46) #[] #[]] 71)) (.cells #[.slice none 0 0, .slice none 0 0] 25)
  have b2 := blk_new ((w.alloc (.cells #[.slice A x3.sh.length c, .slice B x3.el.length d] 25)).alloc (.cells #[.func (.func 46) #[] #[]] 71)) (.cells #[.slice none 0 0, .slice none 0 0] 25)
  simp only [World.size_alloc] at b1 b2
  have B1 := Lib.hid b1; have B2 := Lib.hid b2
  have HW := Lib.hid hW
  have HS := Lib.hid hs
  have HG := Lib.hid hG
  have el1 : x3.sh.length = 1 := rfl
  have el2 : x3.el.length = 3 := rfl
  rw [el1, el2] at *
  rw [hf] at c1
  clear hr hs hW hv b1 b2 hG hf
  go_enter Tryz.func45, Tryz.ntmps45
  go_wp2_with fail
  refine c1.out.mono ?_
  rintro e w1 ⟨rfl, hb⟩
  have b01 := Lib.hid (blk_below b0.out hb)
  have b11 := Lib.hid (blk_below B1.out (hb.mono (by simp)))
  have b21 := Lib.hid (blk_below B2.out (hb.mono (by simp)))
  have HB := Lib.hid (HW.out.trans (hb.mono (by have := HW.out.size; simp at this ⊢; omega)))
  have hsz : w.heap.size + 1 + 1 < w1.heap.size := blk_lt b21.out
  have hmm := HB.out.size
  have k0 : w1.cell? ⟨w.heap.size, 1, none⟩ = some (.slice B 3 d) := blk_cell b01.out 1
  have k0' := pw_cell_below (below_alloc (Below.refl w1.heap.size w1) (.cells #[.slice none 0 0, .func (.func 69) #[] #[.pointer (some ⟨w.heap.size + 1, 0, none⟩), .pointer (some ⟨w.heap.size, 0, none⟩)]] 92)) k0
  have eg : ∀ args w, (callFunc 69 args).run Tryz.prog w = .ok (.enter 69 args) w := enters_of Tryz.func69 (by kernel_rfl) rfl
  have EG := Lib.hid eg
  have hcf := Lib.hid (ordCF HK w1.heap.size w.heap.size (w.heap.size + 1) B (.slice A 1 c) d w1 (by omega) (by omega) (Nat.le_refl _) b01.out b11.out (fun W h => Kd.C_below HS.out (HB.out.trans (h.mono hmm))))
  clear hb eg
  go_wp2_with fail
  go_loopw [22] (fun i wr => ∃ k : Nat, k ≤ 3 ∧ i = .int .i64 k ∧ Hid (QS w1.heap.size (.func (.func 69) #[] #[.pointer (some ⟨w.heap.size + 1, 0, none⟩), .pointer (some ⟨w.heap.size, 0, none⟩)]) (pushL k) wr) ∧ Hid (Below w1.heap.size w1 wr)) (fun i _ => 3 - (intOf i).toNat)
  case atStart => exact ⟨0, Nat.zero_le _, rfl, own_qs _ _ _ (blk_new w1 _), below_alloc (Below.refl _ _) _⟩
  case round =>
    clear k0 k0'
    obtain ⟨k, hk, rfl, hq, hb⟩ := hrel
    by_cases hlt : k < 3
    · have cP := Lib.hid (pushes w1.heap.size _ _ w1 hcf.out EG.out k hlt wr hq.out hb.out)
      have hd1 : decide ((k : Int) < 3) = true := by simp; omega
      go_wp2_with fail
      refine cP.out.mono ?_
      rintro e w2 ⟨⟨v2, rfl⟩, h2, hb2⟩
      have H2 := Lib.hid h2
      have HB2 := Lib.hid (hb.out.trans hb2)
      clear h2 hb2
      go_wp2
      go_roundw
      case rel => exact ⟨k + 1, by omega, by go_num, H2.out, HB2.out⟩
      case measure => simp [intOf]; omega
    · have hk3 : k = 3 := by omega
      subst hk3
      have hq0 : Hid (QS w1.heap.size (.func (.func 69) #[] #[.pointer (some ⟨w.heap.size + 1, 0, none⟩), .pointer (some ⟨w.heap.size, 0, none⟩)]) (popL 0) wr) := hq.out
      have hb0 := Lib.hid hb.out
      clear hq hb hlt
      obtain ⟨wo, rfl⟩ : ∃ wo : World, wo = wr := ⟨_, rfl⟩
      obtain ⟨Aq, dq, hqa⟩ := hq0.out
      have hA := Lib.hid (row_lt hqa (by decide))
      have hgM : w1.heap.size < wo.heap.size := blk_lt hqa.1
      have HQA := Lib.hid hqa
      clear hqa hq0
      go_wp2_with fail
      go_loopw [9] (fun v W => ∃ (k : Nat) (A2 : Option Addr) (d2 : Nat), k ≤ 3 ∧ v = .slice A2 k d2 ∧ Ow KI 3 wo.heap.size (.slice A2 k d2) (outL k) W ∧ Hid (QA w1.heap.size Aq dq (.func (.func 69) #[] #[.pointer (some ⟨w.heap.size + 1, 0, none⟩), .pointer (some ⟨w.heap.size, 0, none⟩)]) (popL k) W) ∧ Hid (Below w1.heap.size w1 W) ∧ wo.heap.size ≤ W.heap.size) (fun v _ => popsN v)
      case atStart => exact ⟨0, none, 0, Nat.zero_le _, rfl, own_nilI _ _, HQA.out, hb0.out, Nat.le_refl _⟩
      case round =>
        obtain ⟨k, A2, d2, hk, rfl, ho, hq, hb, hM⟩ := hrel
        have cN := Lib.hid (Len w1.heap.size _ _ _ hq.out.qs)
        rw [popL_len k hk] at cN
        by_cases hlt : k < 3
        · have hd1 : decide ((0 : Int) < ((3 - k : Nat) : Int)) = true := by simp; omega
          have hd2 : decide (0 < 3 - k) = true := by simp; omega
          have cP := Lib.hid (fun (W : World) (h : QA w1.heap.size Aq dq (.func (.func 69) #[] #[.pointer (some ⟨w.heap.size + 1, 0, none⟩), .pointer (some ⟨w.heap.size, 0, none⟩)]) (popL k) W) (h2 : Below w1.heap.size w1 W) => pops w1.heap.size dq Aq _ _ w1 hcf.out EG.out k hlt W h h2)
          have hpl : 0 < 3 - k := by omega
          have hta := asPop (popX k)
          have HO := Lib.hid ho
          clear ho
          go_wp2_with fail
          refine cN.out.mono ?_
          rintro e w2 ⟨rfl, hw⟩
          subst hw
          go_wp2_with fail
          refine (cP.out _ hq.out hb.out).mono ?_
          rintro e w2 ⟨rfl, h2, hf2⟩
          have H2 := Lib.hid h2
          have HO2 := Lib.hid (own_fr HO.out hf2 hgM hA.out)
          have HB2 := Lib.hid (hb.out.trans hf2.below)
          have hM2 : wo.heap.size ≤ w2.heap.size := Nat.le_trans hM hf2.below.size
          have hln := outL_len k hk
          have hnx := Lib.hid (outL_next k hlt)
          clear h2 hf2
          go_wp2_with (at_builtin; go_must (refine Kd.R_append KI (w0 := w2) wo.heap.size rfl (.tmp 34) (.tmp 39) 22 3 (.int .i64 0) 8 rfl Tryz.underlying22 info_int rfl (by decide) (by omega) (.slice A2 k d2) (outL k) (popX k) [.int .i64 (popX k)] (fun _ => True) (fun _ => False) rfl rfl rfl (fun _ hk => hk.elim) (fun _ _ => trivial) HO2.out.out (Below.refl _ _) hM2 (by omega) ?_); intro v1 w3 hR hb3 hg _; have HO3 := Lib.hid (Ow.mk hR); have HB3 := Lib.hid hb3; obtain ⟨A3, d3, e3, -⟩ := (Ow.mk hR).row; rw [List.length_append, hln] at e3; subst e3; clear hR hb3 hg)
          have hln1 : (outL k ++ [popX k]).length = k + 1 := by simp [hln]
          have HQ3 := Lib.hid (QA.kept H2.out HB3.out hgM hA.out)
          have HB4 := Lib.hid (HB2.out.trans (HB3.out.mono (by omega)))
          have hM3 : wo.heap.size ≤ w3.heap.size := Nat.le_trans hM2 HB3.out.size
          have HO4 : Hid (Ow KI 3 wo.heap.size (.slice A3 (k + 1) d3) (outL (k + 1)) w3) := by rw [← hnx.out]; exact HO3.out
          clear hln1 hln
          go_roundw
          case rel => exact ⟨_, _, _, _, _, _, _, _, _, _, _, ⟨k + 1, A3, d3, by omega, rfl, HO4.out, HQ3.out, HB4.out, hM3⟩, rfl⟩
          case measure => simp [popsN]; omega
        · have hk3 : k = 3 := by omega
          subst hk3
          have HBw := Lib.hid (HB.out.trans (hb.out.mono hmm))
          have cI := Lib.hid (fun (W : World) (h : Below wr.heap.size wr W) => Ints (.slice A2 3 d2) [1, 2, 0] W ((HG.out.below HBw.out).below h) (ho.row.below h) (by intro x hx; simp at hx; omega) (by decide))
          have b22 := Lib.hid ((hb.out.block _ hsz).trans b21.out)
          clear hlt ho hq hM
          go_wp2_with fail
          refine cN.out.mono ?_
          rintro e w2 ⟨rfl, hw⟩
          subst hw
          go_wp2_with fail
          refine (cI.out _ (Below.refl _ _)).mono ?_
          rintro e w2 ⟨u, rfl, hu, hb5⟩
          have hbox2 := blk_below b22.out hb5
          have k0 : w2.cell? ⟨w.heap.size + 1 + 1, 0, none⟩ = some (.slice none 0 0) := blk_cell hbox2 0
          have k1 : w2.cell? ⟨w.heap.size + 1 + 1, 1, none⟩ = some (.slice none 0 0) := blk_cell hbox2 1
          have f0 := blk_frozen hbox2 0
          have f1 := blk_frozen hbox2 1
          obtain ⟨a5, b5, rfl, ha5, hbb5⟩ := hu
          have HF := Lib.hid (fin2 (W := w) (x := r3.1) hbox2 (ha5.lower HBw.out.size) (hbb5.lower HBw.out.size) (HBw.out.trans (hb5.mono HBw.out.size)) (by omega))
          obtain ⟨A6, d6, rfl, -⟩ := ha5.row
          obtain ⟨A7, d7, rfl, -⟩ := hbb5.row
          have el5 : (⟨[(([1, 2, 0] : List Int).length : Int)], ([1, 2, 0] : List Int).map ofF⟩ : V).sh.length = 1 := rfl
          have el6 : (⟨[(([1, 2, 0] : List Int).length : Int)], ([1, 2, 0] : List Int).map ofF⟩ : V).el.length = 3 := rfl
          rw [el5, el6] at HF
          rw [el5, el6]
          clear hb5 ha5 hbb5 hbox2 cI cN el5 el6
          go_wp2
          refine bodyPost_ret (v := .tuple #[.agg #[.slice A6 1 d6, .slice A7 3 d7], .int .i64 0]) (by simp [results, Tryz.results45, go_sem, k0, k1]) rfl ?_
          exact ⟨⟨_, rfl, HF.out.1⟩, HF.out.2⟩
end Go.Proofs.YthjcnifdlfjieaaGreatDoor.Ia
