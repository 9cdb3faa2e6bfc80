import Derived.Test.YthjcnifdlfjieaaGreatDoorHw
set_option linter.unusedVariables false
set_option linter.unusedSimpArgs false
namespace Go.Proofs.YthjcnifdlfjieaaGreatDoor.Hx
open Go.RowKit Go.Shelf Go.Proofs.YthjcnifdlfjieaaGreatDoorW.PrintWords Go.Proofs.YthjcnifdlfjieaaGreatDoor.Ha Go.Proofs.YthjcnifdlfjieaaGreatDoor.Hb Go.Proofs.YthjcnifdlfjieaaGreatDoor.Hc Go.Proofs.YthjcnifdlfjieaaGreatDoor.Hp Go.Proofs.YthjcnifdlfjieaaGreatDoor.Hd Go.Proofs.YthjcnifdlfjieaaGreatDoor.He Go.Proofs.YthjcnifdlfjieaaGreatDoor.Hf Go.Proofs.YthjcnifdlfjieaaGreatDoor.Hg Go.Proofs.YthjcnifdlfjieaaGreatDoor.Hh Go.Proofs.YthjcnifdlfjieaaGreatDoor.Hi Go.Proofs.YthjcnifdlfjieaaGreatDoor.Hm Go.Proofs.YthjcnifdlfjieaaGreatDoor.Hj Go.Proofs.YthjcnifdlfjieaaGreatDoor.Hk Go.Proofs.YthjcnifdlfjieaaGreatDoor.Hl Go.Proofs.YthjcnifdlfjieaaGreatDoor.Hn Go.Proofs.YthjcnifdlfjieaaGreatDoor.Ho Go.Proofs.YthjcnifdlfjieaaGreatDoor.Hq Go.Proofs.YthjcnifdlfjieaaGreatDoor.Hs Go.Proofs.YthjcnifdlfjieaaGreatDoor.Ht Go.Proofs.YthjcnifdlfjieaaGreatDoor.Hu Go.Proofs.YthjcnifdlfjieaaGreatDoor.Hv Go.Proofs.YthjcnifdlfjieaaGreatDoor.Hw

/-- The queue as the heap's interface. -/
abbrev hq (g : Nat) : Value := .iface 89 (ptr g)

theorem mPush (a : Addr) (W : World) : (method 290 89 (.pointer (some a)) "Push").run Tryz.prog W = .ok (159, .pointer (some a)) W := by kernel_rfl
theorem mPop (a : Addr) (W : World) : (method 290 89 (.pointer (some a)) "Pop").run Tryz.prog W = .ok (158, .pointer (some a)) W := by kernel_rfl
theorem mLen (a : Addr) (W : World) : (method 290 89 (.pointer (some a)) "Len").run Tryz.prog W = .ok (71, .pointer (some a)) W := by kernel_rfl
theorem mLess (a : Addr) (W : World) : (method 290 89 (.pointer (some a)) "Less").run Tryz.prog W = .ok (157, .pointer (some a)) W := by kernel_rfl
theorem mSwap (a : Addr) (W : World) : (method 290 89 (.pointer (some a)) "Swap").run Tryz.prog W = .ok (160, .pointer (some a)) W := by kernel_rfl

set_option maxRecDepth 100000 in
set_option maxHeartbeats 4000000 in
theorem up_stay (g : Nat) (W : World) :
    Calls Tryz.prog 85 #[hq g, .int .i64 0] W fun e w' => (∃ v, e = .returned v) ∧ W = w' := by
  have hqo : Int.tdiv (-1 : Int) 2 = 0 := rfl
  go_enter Tryz.func85, Tryz.ntmps85
  go_wp2
  go_loopw [1] (fun i wr => i = .int .i64 0 ∧ wr = W) (fun _ _ => 0)
  case atStart => exact ⟨rfl, rfl⟩
  case round =>
    obtain ⟨rfl, rfl⟩ := hrel
    go_wp2
    go_end0
    exact ⟨⟨_, rfl⟩, rfl⟩

set_option maxRecDepth 100000 in
set_option maxHeartbeats 4000000 in
theorem hPush (g : Nat) (f : Value) (l : List Int) (x : Int) (r : List Int) (W : World) (h : QS g f l W) (hl : l.length ≤ 1000)
    (hup : ∀ W1, QS g f (l ++ [x]) W1 → Below g W W1 → Calls Tryz.prog 85 #[hq g, .int .i64 (l.length : Int)] W1 fun e w' => (∃ v, e = .returned v) ∧ QS g f r w' ∧ Below g W1 w') :
    Calls Tryz.prog 70 #[hq g, .iface 3 (.int .i64 x)] W fun e w' => (∃ v, e = .returned v) ∧ QS g f r w' ∧ Below g W w' := by
  have m1 := mPush ⟨g, 0, none⟩
  have m2 := mLen ⟨g, 0, none⟩
  have cP := Lib.hid (Push g f l x W h hl)
  have HU := Lib.hid hup
  have hw1 : IntKind.i64.wrap ((l.length : Int) + 1 - 1) = l.length := by rw [IntKind.wrap_i64]; omega
  clear h hup
  go_enter Tryz.func70, Tryz.ntmps70
  go_wp2_with fail
  refine cP.out.mono ?_
  rintro e w1 ⟨⟨v1, rfl⟩, h1, hb1⟩
  have H1 := Lib.hid h1; have HB1 := Lib.hid hb1
  clear h1 hb1
  go_wp2_with fail
  refine (Len g f (l ++ [x]) _ H1.out).mono ?_
  rintro e w2 ⟨rfl, hw⟩
  subst hw
  have hl1 : (l ++ [x]).length = l.length + 1 := by simp
  rw [hl1]
  go_wp2_with fail
  refine (HU.out _ H1.out HB1.out).mono ?_
  rintro e w3 ⟨⟨v3, rfl⟩, h3, hb3⟩
  have H3 := Lib.hid h3; have HB3 := Lib.hid (HB1.out.trans hb3)
  clear h3 hb3
  go_wp2
  go_end0
  exact ⟨⟨_, rfl⟩, H3.out, HB3.out⟩

/-- The comparison of the queue, in every world that keeps what lay below block g. -/
def CF (g : Nat) (F : FuncId) (lb : Array Value) (cf : Int → Int → Int) (W0 : World) : Prop :=
  ∀ (x y : Int) (W1 : World), Below g W0 W1 → 0 ≤ x → x < 3 → 0 ≤ y → y < 3 → x ≠ y → Calls Tryz.prog F (#[.int .i64 x, .int .i64 y] ++ lb) W1 fun e w' => e = .returned (.int .i64 (cf x y)) ∧ Below W1.heap.size W1 w'
theorem _root_.Go.Proofs.YthjcnifdlfjieaaGreatDoor.Hu.QS.lt {g : Nat} {f : Value} {l : List Int} {W : World} (h : QS g f l W) : g ≤ W.heap.size := by
  obtain ⟨A, c, h1, _⟩ := h
  exact Nat.le_of_lt (blk_lt h1)

set_option maxRecDepth 100000 in
set_option maxHeartbeats 4000000 in
theorem up_no (g : Nat) (F : FuncId) (lb : Array Value) (cf : Int → Int → Int) (W0 : World) (hcf : CF g F lb cf W0) (eg : ∀ args w, (callFunc F args).run Tryz.prog w = .ok (.enter F args) w)
    (l : List Int) (j : Nat) (x y c : Int) (W : World) (h : QS g (.func (.func F) #[] lb) l W) (hW : Below g W0 W) (hj : j < l.length) (hj1 : 1 ≤ j) (hj2 : j ≤ 2) (hx : l[j] = x) (hy : l[0]'(by omega) = y) (hxr : 0 ≤ x ∧ x < 3) (hyr : 0 ≤ y ∧ y < 3) (hxy : x ≠ y) (hc : cf x y = c) (hc0 : 0 < c) :
    Calls Tryz.prog 85 #[hq g, .int .i64 (j : Int)] W fun e w' => (∃ v, e = .returned v) ∧ QS g (.func (.func F) #[] lb) l w' ∧ Below g W w' := by
  have m1 := mLess ⟨g, 0, none⟩
  have cL := Lib.hid (Less g F lb l j 0 x y c W h hj (by omega) hx hy (by omega) eg (fun W1 h1 => hc ▸ hcf x y W1 (hW.trans (h1.mono h.lt)) hxr.1 hxr.2 hyr.1 hyr.2 hxy))
  have hd : decide (c < 0) = false := by simp; omega
  rw [hd, show ((0 : Nat) : Int) = 0 from rfl] at cL
  have HQ := Lib.hid h
  have hqo : Int.tdiv ((j : Int) - 1) 2 = 0 := by
    rcases (show j = 1 ∨ j = 2 by omega) with rfl | rfl <;> rfl
  have hj0 : ((0 : Int) == (j : Int)) = false := by
    rcases (show j = 1 ∨ j = 2 by omega) with rfl | rfl <;> rfl
  have hj00 : decide ((0 : Int) = (j : Int)) = false := by
    rcases (show j = 1 ∨ j = 2 by omega) with rfl | rfl <;> rfl
  have hgl := h.lt
  clear h hx hy hcf hd
  go_enter Tryz.func85, Tryz.ntmps85
  go_wp2
  go_loopw [1] (fun i wr => i = .int .i64 (j : Int) ∧ wr = W) (fun _ _ => 0)
  case atStart => exact ⟨rfl, rfl⟩
  case round =>
    obtain ⟨rfl, rfl⟩ := hrel
    go_wp2_with fail
    refine cL.out.mono ?_
    rintro e w1 ⟨rfl, hb⟩
    have H1 := Lib.hid (HQ.out.below hb)
    have HB := Lib.hid (hb.mono hgl)
    clear hb
    go_wp2
    go_end0
    exact ⟨⟨_, rfl⟩, H1.out, HB.out⟩

set_option maxRecDepth 100000 in
set_option maxHeartbeats 4000000 in
theorem up_yes (g : Nat) (F : FuncId) (lb : Array Value) (cf : Int → Int → Int) (W0 : World) (hcf : CF g F lb cf W0) (eg : ∀ args w, (callFunc F args).run Tryz.prog w = .ok (.enter F args) w)
    (l : List Int) (j : Nat) (x y c : Int) (W : World) (h : QS g (.func (.func F) #[] lb) l W) (hW : Below g W0 W) (hj : j < l.length) (hj1 : 1 ≤ j) (hj2 : j ≤ 2) (hx : l[j] = x) (hy : l[0]'(by omega) = y) (hxr : 0 ≤ x ∧ x < 3) (hyr : 0 ≤ y ∧ y < 3) (hxy : x ≠ y) (hc : cf x y = c) (hc0 : c < 0) :
    Calls Tryz.prog 85 #[hq g, .int .i64 (j : Int)] W fun e w' => (∃ v, e = .returned v) ∧ QS g (.func (.func F) #[] lb) ((l.set 0 x).set j y) w' ∧ Below g W w' := by
  have m1 := mLess ⟨g, 0, none⟩
  have m2 := mSwap ⟨g, 0, none⟩
  have cL := Lib.hid (Less g F lb l j 0 x y c W h hj (by omega) hx hy (by omega) eg (fun W1 h1 => hc ▸ hcf x y W1 (hW.trans (h1.mono h.lt)) hxr.1 hxr.2 hyr.1 hyr.2 hxy))
  have cS := Lib.hid (fun (W1 : World) (h : QS g (.func (.func F) #[] lb) l W1) => Swap g _ l 0 j y x W1 h (by omega) hj hy hx (by omega))
  rw [show ((0 : Nat) : Int) = 0 from rfl] at cS
  have hd : decide (c < 0) = true := by simpa using hc0
  rw [hd, show ((0 : Nat) : Int) = 0 from rfl] at cL
  have HQ := Lib.hid h
  have hqo : Int.tdiv ((j : Int) - 1) 2 = 0 := by
    rcases (show j = 1 ∨ j = 2 by omega) with rfl | rfl <;> rfl
  have hj0 : ((0 : Int) == (j : Int)) = false := by
    rcases (show j = 1 ∨ j = 2 by omega) with rfl | rfl <;> rfl
  have hj00 : decide ((0 : Int) = (j : Int)) = false := by
    rcases (show j = 1 ∨ j = 2 by omega) with rfl | rfl <;> rfl
  have hgl := h.lt
  clear h hx hy hcf hd hc0
  go_enter Tryz.func85, Tryz.ntmps85
  go_wp2
  go_loopw [1] (fun i wr => (i = .int .i64 (j : Int) ∧ wr = W) ∨ (i = .int .i64 0 ∧ Hid (QS g (.func (.func F) #[] lb) ((l.set 0 x).set j y) wr ∧ Below g W wr))) (fun i _ => (intOf i).toNat)
  case atStart => exact .inl ⟨rfl, rfl⟩
  case round =>
    rcases hrel with ⟨rfl, rfl⟩ | ⟨rfl, hq⟩
    · go_wp2_with fail
      refine cL.out.mono ?_
      rintro e w1 ⟨rfl, hb⟩
      have H1 := Lib.hid (HQ.out.below hb)
      have HB := Lib.hid (hb.mono hgl)
      clear hb
      go_wp2_with fail
      refine (cS.out _ H1.out).mono ?_
      rintro e w2 ⟨⟨v2, rfl⟩, h2, hb2⟩
      have H2 := Lib.hid h2
      have HB2 := Lib.hid (HB.out.trans hb2)
      clear h2 hb2
      go_wp2
      go_roundw
      case rel => exact .inr ⟨rfl, H2.out, HB2.out⟩
      case measure => simp [intOf]; omega
    · go_wp2
      go_end0
      exact ⟨⟨_, rfl⟩, hq.out.1, hq.out.2⟩

set_option maxRecDepth 100000 in
set_option maxHeartbeats 4000000 in
theorem down_stay (g : Nat) (n : Int) (W : World) (hn : n ≤ 1) :
    Calls Tryz.prog 86 #[hq g, .int .i64 0, .int .i64 n] W fun e w' => (∃ v, e = .returned v) ∧ W = w' := by
  have hd : decide (n ≤ 1) = true := by simpa using hn
  go_enter Tryz.func86, Tryz.ntmps86
  go_wp2
  go_loopw [7] (fun i wr => i = .int .i64 0 ∧ wr = W) (fun _ _ => 0)
  case atStart => exact ⟨rfl, rfl⟩
  case round =>
    obtain ⟨rfl, rfl⟩ := hrel
    go_wp2
    go_ret
    exact ⟨⟨_, rfl⟩, rfl⟩

set_option maxRecDepth 100000 in
set_option maxHeartbeats 4000000 in
theorem down_no (g d : Nat) (A : Option Addr) (F : FuncId) (lb : Array Value) (cf : Int → Int → Int) (W0 : World) (hcf : CF g F lb cf W0) (eg : ∀ args w, (callFunc F args).run Tryz.prog w = .ok (.enter F args) w)
    (l : List Int) (x y c : Int) (W : World) (h : QA g A d (.func (.func F) #[] lb) l W) (hW : Below g W0 W) (hj : 1 < l.length) (hx : l[1] = x) (hy : l[0]'(by omega) = y) (hxr : 0 ≤ x ∧ x < 3) (hyr : 0 ≤ y ∧ y < 3) (hxy : x ≠ y) (hc : cf x y = c) (hc0 : 0 < c) :
    Calls Tryz.prog 86 #[hq g, .int .i64 0, .int .i64 2] W fun e w' => (∃ v, e = .returned v) ∧ QA g A d (.func (.func F) #[] lb) l w' ∧ Fr g A W w' := by
  have m1 := mLess ⟨g, 0, none⟩
  have cL := Lib.hid (Less g F lb l 1 0 x y c W h.qs hj (by omega) hx hy (by omega) eg (fun W1 h1 => hc ▸ hcf x y W1 (hW.trans (h1.mono h.qs.lt)) hxr.1 hxr.2 hyr.1 hyr.2 hxy))
  have hd : decide (c < 0) = false := by simp; omega
  rw [hd, show ((0 : Nat) : Int) = 0 from rfl] at cL
  have HQ := Lib.hid h
  have hgl := h.qs.lt
  clear h hx hy hcf hd hc0
  go_enter Tryz.func86, Tryz.ntmps86
  go_wp2
  go_loopw [7] (fun i wr => i = .int .i64 0 ∧ wr = W) (fun _ _ => 0)
  case atStart => exact ⟨rfl, rfl⟩
  case round =>
    obtain ⟨rfl, rfl⟩ := hrel
    go_wp2_with fail
    refine cL.out.mono ?_
    rintro e w1 ⟨rfl, hb⟩
    have H1 := Lib.hid (HQ.out.below hb)
    have HB := Lib.hid (Fr.of_below (A := A) hb hgl)
    clear hb
    go_wp2
    go_ret
    exact ⟨⟨_, rfl⟩, H1.out, HB.out⟩

set_option maxRecDepth 100000 in
set_option maxHeartbeats 4000000 in
theorem hPop (g d : Nat) (A : Option Addr) (f : Value) (l l1 : List Int) (m : Nat) (x : Int) (W : World) (h : QA g A d f l W) (hl : l.length = m + 1) (hl1 : l1.length = m + 1) (hm : m ≤ 1000) (hx : l1[m]'(by omega) = x)
    (hS : Calls Tryz.prog 160 #[ptr g, .int .i64 0, .int .i64 m] W fun e w' => (∃ v, e = .returned v) ∧ QA g A d f l1 w' ∧ Fr g A W w')
    (hD : ∀ W1, QA g A d f l1 W1 → Fr g A W W1 → Calls Tryz.prog 86 #[hq g, .int .i64 0, .int .i64 m] W1 fun e w' => (∃ v, e = .returned v) ∧ QA g A d f l1 w' ∧ Fr g A W1 w') :
    Calls Tryz.prog 72 #[hq g] W fun e w' => e = .returned (.iface 3 (.int .i64 x)) ∧ QA g A d f (l1.take m) w' ∧ Fr g A W w' := by
  have m1 := mPop ⟨g, 0, none⟩
  have m2 := mLen ⟨g, 0, none⟩
  have m3 := mSwap ⟨g, 0, none⟩
  have cLn := Lib.hid (Len g f l W h.qs)
  rw [hl] at cLn
  have HS := Lib.hid hS; have HD := Lib.hid hD
  have cP := Lib.hid (fun (W1 : World) (h : QA g A d f l1 W1) => Pop g d A f l1 m x W1 h hl1 hx hm)
  have hw1 : ((m + 1 : Nat) : Int) - 1 = m := by omega
  clear h hS hD hx hl hl1
  go_enter Tryz.func72, Tryz.ntmps72
  go_wp2_with fail
  refine cLn.out.mono ?_
  rintro e w1 ⟨rfl, hw⟩
  subst hw
  go_wp2_with fail
  refine HS.out.mono ?_
  rintro e w2 ⟨⟨v2, rfl⟩, h2, hb2⟩
  have H2 := Lib.hid h2; have HB2 := Lib.hid hb2
  clear h2 hb2
  go_wp2_with fail
  refine (HD.out _ H2.out HB2.out).mono ?_
  rintro e w3 ⟨⟨v3, rfl⟩, h3, hb3⟩
  have H3 := Lib.hid h3; have HB3 := Lib.hid (HB2.out.trans hb3)
  clear h3 hb3
  go_wp2_with fail
  refine (cP.out _ H3.out).mono ?_
  rintro e w4 ⟨rfl, h4, hb4⟩
  have H4 := Lib.hid h4; have HB4 := Lib.hid (HB3.out.trans hb4)
  clear h4 hb4
  go_wp2
  go_ret
  exact ⟨rfl, H4.out, HB4.out⟩
end Go.Proofs.YthjcnifdlfjieaaGreatDoor.Hx
