import Derived.Test.YthjcnifdlfjieaaGreatDoorHd
set_option linter.unusedVariables false
set_option linter.unusedSimpArgs false
namespace Go.Proofs.YthjcnifdlfjieaaGreatDoor.He
open Go.RowKit Go.Shelf Go.Proofs.YthjcnifdlfjieaaGreatDoorW.PrintWords Go.Proofs.YthjcnifdlfjieaaGreatDoor.Ha Go.Proofs.YthjcnifdlfjieaaGreatDoor.Hb Go.Proofs.YthjcnifdlfjieaaGreatDoor.Hc Go.Proofs.YthjcnifdlfjieaaGreatDoor.Hp Go.Proofs.YthjcnifdlfjieaaGreatDoor.Hd

structure V where
  sh : List Int
  el : List ByteArray
def IsVal (w : World) (v : Value) (x : V) : Prop := ∃ a b, v = .agg #[a, b] ∧ IsRow (Kd.int .i64) w a x.sh ∧ IsRow Kd.string w b x.el
theorem IsVal.below {w w1 : World} {v : Value} {x : V} (h : IsVal w v x) (hb : Below w.heap.size w w1) : IsVal w1 v x := by
  obtain ⟨a, b, e, h1, h2⟩ := h
  exact ⟨a, b, e, h1.below hb, h2.below hb⟩
theorem vmay1 (s : ByteArray) (W : World) : Calls Tryz.prog 22 #[.string s] W fun e w' => e = .returned (.bool (!mayB s)) ∧ Below W.heap.size W w' := by
  go_enter Tryz.func22, Tryz.ntmps22
  go_wp2_with (go_at_call 23; refine (May _ _).mono ?_; rintro e w1 ⟨rfl, hb⟩; have HB := Lib.hid hb; clear hb)
  go_ret
  exact ⟨rfl, HB.out⟩
theorem box2 {w w1 : World} {a b : Value} {T : TypeId} (h : Below (w.alloc (.cells #[a, b] T)).heap.size (w.alloc (.cells #[a, b] T)) w1) : w1.cell? ⟨w.heap.size, 0, none⟩ = some a ∧ w1.cell? ⟨w.heap.size, 1, none⟩ = some b := by
  have h0 := h.cell (p := ⟨w.heap.size, 0, none⟩) (by simp)
  have h1 := h.cell (p := ⟨w.heap.size, 1, none⟩) (by simp)
  rw [h0, h1]
  exact ⟨by simp [go_sem], by simp [go_sem]⟩
theorem below_box {w w1 : World} {o : Obj} (h : Below (w.alloc o).heap.size (w.alloc o) w1) : Below w.heap.size w w1 :=
  (below_alloc (Below.refl w.heap.size w) o).trans (h.mono (by simp))
def mayV (x : V) : Bool := decide ((sizeF x.sh).2 = 0) && decide ((x.el.length : Int) = (sizeF x.sh).1) && !x.el.any (fun s => !mayB s)

set_option maxHeartbeats 1000000 in
theorem MayV (v : Value) (x : V) (w : World) (hv : IsVal w v x) : Calls Tryz.prog 7 #[v] w fun e w' => e = .returned (.bool (mayV x)) ∧ Below w.heap.size w w' := by
  obtain ⟨a, b, rfl, ⟨A, c, rfl, hc, hr⟩, ⟨B, d, rfl, hd, hs⟩⟩ := hv
  have e1 : ∀ args w, (callFunc 22 args).run Tryz.prog w = .ok (.enter 22 args) w := enters_of Tryz.func22 (by kernel_rfl) rfl
  have c1 := Lib.hid (fun w (h : Kd.C (Kd.int .i64) w A x.sh.length x.sh) => Size A c x.sh w h hc)
  have c2 := Lib.hid (fun w (h : Kd.C Kd.string w B x.el.length x.el) => ContainsFunc_str 22 #[] e1 (fun s => !mayB s) B d x.el w (fun s W _ => vmay1 s W) h hd)
  have HR := Lib.hid (Kd.C_below hr (below_alloc (Below.refl w.heap.size w) (.cells #[.slice A x.sh.length c, .slice B x.el.length d] 25)))
  have HS := Lib.hid (Kd.C_below hs (below_alloc (Below.refl w.heap.size w) (.cells #[.slice A x.sh.length c, .slice B x.el.length d] 25)))
  clear e1 hr hs
  have hm : Hid (mayV x = (decide ((sizeF x.sh).2 = 0) && decide ((x.el.length : Int) = (sizeF x.sh).1) && !x.el.any (fun s => !mayB s))) := rfl
  obtain ⟨⟨n, er⟩, hq⟩ : ∃ q, sizeF x.sh = q := ⟨_, rfl⟩
  rw [hq] at c1 hm
  have Hq := Lib.hid hq; clear hq
  go_enter Tryz.func7, Tryz.ntmps7
  go_wp2_with fail
  refine (c1.out _ HR.out).mono ?_
  rintro e w1 ⟨rfl, hb⟩
  obtain ⟨k0, k1⟩ := box2 hb
  have HS1 := Lib.hid (Kd.C_below HS.out hb)
  have HB := Lib.hid (below_box hb)
  clear hb c1
  go_wp2_with (go_at_call 21; refine (c2.out _ HS1.out).mono ?_; rintro e w2 ⟨rfl, hb⟩; have HB2 := Lib.hid (HB.out.trans (hb.mono HB.out.size)); clear hb)
  all_goals go_ret
  all_goals
    refine ⟨ret_bool ?_, (by first | exact HB2.out | exact HB.out)⟩
    rw [hm.out]
    simp [*]

theorem add_succ (ad : Addr) (n : Nat) : ad.add (n + 1) = ⟨(ad.add n).block, (ad.add n).off + 1, none⟩ := by
  unfold Addr.add
  by_cases h : n = 0
  · subst h; simp
  · simp [h, Nat.add_assoc]
/-- Over structs: slices of arrays. -/
def IsVals (w : World) (v : Value) (l : List V) : Prop := ∃ A c, v = .slice A l.length c ∧ l.length ≤ c ∧ l.length ≤ 9223372036854775807 ∧ (0 < l.length → ∃ ad, A = some ad ∧ ∀ j x, l[j]? = some x → ∃ a b, w.cell? (ad.add (j * 2)) = some a ∧ w.cell? (ad.add (j * 2 + 1)) = some b ∧ IsRow (Kd.int .i64) w a x.sh ∧ IsRow Kd.string w b x.el)
theorem IsVals.below {w w1 : World} {v : Value} {l : List V} (h : IsVals w v l) (hb : Below w.heap.size w w1) : IsVals w1 v l := by
  obtain ⟨A, c, e, h1, h2, h3⟩ := h
  refine ⟨A, c, e, h1, h2, fun hl => ?_⟩
  obtain ⟨ad, e2, h4⟩ := h3 hl
  refine ⟨ad, e2, fun j x hx => ?_⟩
  obtain ⟨a, b, k0, k1, r1, r2⟩ := h4 j x hx
  exact ⟨a, b, pw_cell_below hb k0, pw_cell_below hb k1, r1.below hb, r2.below hb⟩

set_option maxHeartbeats 1000000 in
theorem IndexFunc_val (g : FuncId) (lb : Array Value) (eg : ∀ args w, (callFunc g args).run Tryz.prog w = .ok (.enter g args) w) (p : V → Bool) (v : Value) (l : List V) (w : World)
    (hp : ∀ (u : Value) (x : V) (W : World), IsVal W u x → Below w.heap.size w W → Calls Tryz.prog g (#[u] ++ lb) W fun e w' => e = .returned (.bool (p x)) ∧ Below W.heap.size W w')
    (hr : IsVals w v l) :
    Calls Tryz.prog 81 #[v, .func (.func g) #[] lb] w fun e w' => e = .returned (.int .i64 (idxOf p l 0)) ∧ Below w.heap.size w w' := by
  have HR := Lib.hid hr
  obtain ⟨A, c, rfl, hc, HL, -⟩ := hr
  have HP := Lib.hid hp
  clear hp
  go_enter Tryz.func81, Tryz.ntmps81
  go_wp2
  go_loopw [5, 8] (fun _ i wr => ∃ k : Nat, k ≤ l.length ∧ i = .int .i64 k ∧ Hid (idxOf p l 0 = idxOf p (l.drop k) k) ∧ Below w.heap.size w wr) (fun _ i _ => l.length - (intOf i).toNat)
  case atStart => exact ⟨0, Nat.zero_le _, rfl, rfl, Below.refl _ _⟩
  case round =>
    obtain ⟨k, hk, rfl, hi, hb⟩ := hrel
    have hkm : k ≤ 9223372036854775807 := Nat.le_trans hk HL
    by_cases hlt : k < l.length
    · have hr2 := HR.out.below hb
      obtain ⟨A', c', e', -, -, h3⟩ := hr2
      obtain ⟨ad, e2, h4⟩ := h3 (by omega)
      obtain ⟨a, b, k0, k1, r1, r2⟩ := h4 k l[k] (List.getElem?_eq_getElem hlt)
      injection e' with e3 e4 e5
      subst e3; subst e2
      have HPx := Lib.hid (HP.out (.agg #[a, b]) l[k] _ ⟨a, b, rfl, r1, r2⟩ hb)
      have HB := Lib.hid hb
      rw [add_succ] at k1
      clear hb h4 h3 r1 r2 e4 e5
      have hd : decide (k < l.length) = true := by simpa using hlt
      go_wp2_with fail
      refine HPx.out.mono ?_
      rintro e w1 ⟨rfl, hb2⟩
      have hb3 := Lib.hid (HB.out.trans (hb2.mono HB.out.size))
      clear hb2 HPx HB
      by_cases hpk : p l[k] = true
      · have hq := Lib.hid hpk
        rw [hpk]; clear hpk
        go_wp2
        go_ret
        exact ⟨ret_int (hi.out.trans (idxOf_yes p l k hlt hq.out)).symm, hb3.out⟩
      · have hpk : p l[k] = false := by simpa using hpk
        have hq := Lib.hid hpk
        rw [hpk]; clear hpk
        go_wp2
        go_roundw
        case rel => exact ⟨k + 1, by omega, by go_num, (by have := hi.out; rw [idxOf_no p l k hlt hq.out] at this; exact this), hb3.out⟩
        case measure => simp [intOf]; omega
    · have hd : decide (k < l.length) = false := by simpa using hlt
      go_wp2
      go_ret
      exact ⟨ret_int (hi.out.trans (idxOf_nil p l k hlt)).symm, hb⟩

set_option maxHeartbeats 1000000 in
theorem ContainsFunc_val (g : FuncId) (lb : Array Value) (eg : ∀ args w, (callFunc g args).run Tryz.prog w = .ok (.enter g args) w) (p : V → Bool) (v : Value) (l : List V) (w : World)
    (hp : ∀ (u : Value) (x : V) (W : World), IsVal W u x → Below w.heap.size w W → Calls Tryz.prog g (#[u] ++ lb) W fun e w' => e = .returned (.bool (p x)) ∧ Below W.heap.size W w')
    (hr : IsVals w v l) :
    Calls Tryz.prog 56 #[v, .func (.func g) #[] lb] w fun e w' => e = .returned (.bool (l.any p)) ∧ Below w.heap.size w w' := by
  have cI := Lib.hid (IndexFunc_val g lb eg p v l w hp hr)
  have hq := Lib.hid (idxOf_geq p l 0)
  obtain ⟨A, c, rfl, -⟩ := hr
  clear hp
  go_enter Tryz.func56, Tryz.ntmps56
  go_wp2_with fail
  refine cI.out.mono ?_
  rintro e w1 ⟨rfl, hb⟩
  go_wp2
  go_ret
  exact ⟨ret_bool hq.out, hb⟩

theorem fine1 (u : Value) (x : V) (W : World) (hx : IsVal W u x) : Calls Tryz.prog 57 #[u] W fun e w' => e = .returned (.bool (!mayV x)) ∧ Below W.heap.size W w' := by
  have c1 := Lib.hid (fun w (h : IsVal w u x) => MayV u x w h)
  obtain ⟨a, b, rfl, ha, hb⟩ := id hx
  have HX := Lib.hid hx
  clear hx ha hb
  go_enter Tryz.func57, Tryz.ntmps57
  go_wp2_with fail
  refine (c1.out _ (HX.out.below (below_alloc (Below.refl W.heap.size W) _))).mono ?_
  rintro e w1 ⟨rfl, hb⟩
  have HB := Lib.hid (below_box hb); clear hb
  go_wp2
  go_ret
  exact ⟨rfl, HB.out⟩

def fineF (v : V) (more : List V) : Int := if mayV v = false ∨ more.any (fun x => !mayV x) = true then 1 else if v.sh.length = 1 then 0 else 3

set_option maxHeartbeats 1000000 in
theorem fine (u m : Value) (v : V) (l : List V) (w : World) (hv : IsVal w u v) (hm : IsVals w m l) : Calls Tryz.prog 24 #[u, m] w fun e w' => e = .returned (.int .i64 (fineF v l)) ∧ Below w.heap.size w w' := by
  have e1 : ∀ args w, (callFunc 57 args).run Tryz.prog w = .ok (.enter 57 args) w := enters_of Tryz.func57 (by kernel_rfl) rfl
  have c1 := Lib.hid (fun w (h : IsVal w u v) => MayV u v w h)
  have c2 := Lib.hid (fun w (h : IsVals w m l) => ContainsFunc_val 57 #[] e1 (fun x => !mayV x) m l w (fun u x W h _ => fine1 u x W h) h)
  have HV := Lib.hid hv
  have HM := Lib.hid hm
  obtain ⟨a, b, rfl, ⟨A, c, rfl, hc, ha⟩, hb⟩ := hv
  obtain ⟨A2, c2_, rfl, -⟩ := hm
  clear e1 hb ha
  cases h1 : mayV v with
  | false =>
    have hf : Hid (fineF v l = 1) := by show _ = _; simp [fineF, h1]
    rw [h1] at c1; clear h1
    go_enter Tryz.func24, Tryz.ntmps24
    go_wp2_with fail
    refine (c1.out _ (HV.out.below (below_alloc (Below.refl w.heap.size w) _))).mono ?_
    rintro e w1 ⟨rfl, hb⟩
    have HB := Lib.hid (below_box hb)
    obtain ⟨k0, k1⟩ := box2 hb
    clear hb
    go_wp2
    go_ret
    exact ⟨ret_int hf.out.symm, HB.out⟩
  | true =>
    cases h2 : l.any (fun x => !mayV x) with
    | true =>
      have hf : Hid (fineF v l = 1) := by show _ = _; unfold fineF; rw [if_pos (.inr h2)]
      rw [h1] at c1; rw [h2] at c2; clear h1 h2
      go_enter Tryz.func24, Tryz.ntmps24
      go_wp2_with fail
      refine (c1.out _ (HV.out.below (below_alloc (Below.refl w.heap.size w) _))).mono ?_
      rintro e w1 ⟨rfl, hb⟩
      have HB := Lib.hid (below_box hb)
      obtain ⟨k0, k1⟩ := box2 hb
      clear hb
      go_wp2_with fail
      refine (c2.out _ (HM.out.below HB.out)).mono ?_
      rintro e w2 ⟨rfl, hb⟩
      have HB2 := Lib.hid (HB.out.trans (hb.mono HB.out.size)); clear hb
      go_wp2
      go_ret
      exact ⟨ret_int hf.out.symm, HB2.out⟩
    | false =>
      by_cases h3 : v.sh.length = 1
      · have hf : Hid (fineF v l = 0) := by show _ = _; unfold fineF; rw [if_neg (by rw [h1, h2]; simp), if_pos h3]
        rw [h1] at c1; rw [h2] at c2; clear h1 h2
        have hd : (v.sh.length == 1) = true := by simpa using h3
        have hd2 : ((v.sh.length : Int) == 1) = true := by simp; omega
        have hd3 : ((v.sh.length : Int) != 1) = false := by simp; omega
        clear h3
        go_enter Tryz.func24, Tryz.ntmps24
        go_wp2_with fail
        refine (c1.out _ (HV.out.below (below_alloc (Below.refl w.heap.size w) _))).mono ?_
        rintro e w1 ⟨rfl, hb⟩
        have HB := Lib.hid (below_box hb)
        obtain ⟨k0, k1⟩ := box2 hb
        clear hb
        go_wp2_with fail
        refine (c2.out _ (HM.out.below HB.out)).mono ?_
        rintro e w2 ⟨rfl, hb⟩
        have k0' := pw_cell_below hb k0
        have HB2 := Lib.hid (HB.out.trans (hb.mono HB.out.size)); clear hb
        go_wp2
        go_ret
        exact ⟨ret_int hf.out.symm, HB2.out⟩
      · have hf : Hid (fineF v l = 3) := by show _ = _; unfold fineF; rw [if_neg (by rw [h1, h2]; simp), if_neg h3]
        rw [h1] at c1; rw [h2] at c2; clear h1 h2
        have hd2 : ((v.sh.length : Int) == 1) = false := by simp; omega
        have hd3 : ((v.sh.length : Int) != 1) = true := by simp; omega
        clear h3
        go_enter Tryz.func24, Tryz.ntmps24
        go_wp2_with fail
        refine (c1.out _ (HV.out.below (below_alloc (Below.refl w.heap.size w) _))).mono ?_
        rintro e w1 ⟨rfl, hb⟩
        have HB := Lib.hid (below_box hb)
        obtain ⟨k0, k1⟩ := box2 hb
        clear hb
        go_wp2_with fail
        refine (c2.out _ (HM.out.below HB.out)).mono ?_
        rintro e w2 ⟨rfl, hb⟩
        have k0' := pw_cell_below hb k0
        have HB2 := Lib.hid (HB.out.trans (hb.mono HB.out.size)); clear hb
        go_wp2
        go_ret
        exact ⟨ret_int hf.out.symm, HB2.out⟩
end Go.Proofs.YthjcnifdlfjieaaGreatDoor.He
