import Derived.Test.YthjcnifdlfjieaaGreatDoorHr
import Derived.Shelf.RegionOpen
import Derived.RangeFuncCalls
import Derived.Sort.QuietIn
set_option linter.unusedVariables false
set_option linter.unusedSimpArgs false
namespace Go.Proofs.YthjcnifdlfjieaaGreatDoor.Hs
open Go.RowKit Go.Shelf Go.Proofs.YthjcnifdlfjieaaGreatDoorW.PrintWords Go.Proofs.YthjcnifdlfjieaaGreatDoor.Ha Go.Proofs.YthjcnifdlfjieaaGreatDoor.Hb Go.Proofs.YthjcnifdlfjieaaGreatDoor.Hc Go.Proofs.YthjcnifdlfjieaaGreatDoor.Hp Go.Proofs.YthjcnifdlfjieaaGreatDoor.Hd Go.Proofs.YthjcnifdlfjieaaGreatDoor.He Go.Proofs.YthjcnifdlfjieaaGreatDoor.Hf Go.Proofs.YthjcnifdlfjieaaGreatDoor.Hg Go.Proofs.YthjcnifdlfjieaaGreatDoor.Hh Go.Proofs.YthjcnifdlfjieaaGreatDoor.Hi Go.Proofs.YthjcnifdlfjieaaGreatDoor.Hm Go.Proofs.YthjcnifdlfjieaaGreatDoor.Hj Go.Proofs.YthjcnifdlfjieaaGreatDoor.Hk Go.Proofs.YthjcnifdlfjieaaGreatDoor.Hl Go.Proofs.YthjcnifdlfjieaaGreatDoor.Hn Go.Proofs.YthjcnifdlfjieaaGreatDoor.Ho Go.Proofs.YthjcnifdlfjieaaGreatDoor.Hq

abbrev KU : Kd Int := Kd.int .u64
theorem info_u64 : (Tryz.prog.info? 125).map (fun i => (i.zero, i.size, i.bytes)) = some (some (.int .u64 0), 1, 8) := by kernel_rfl

attribute [local go_sem] Oper.semAt_some
theorem isNaN_u64 (x : Int) (w : World) : Calls Tryz.prog 122 #[.int .u64 x] w fun e w' => e = .returned (.bool false) ∧ w = w' := by
  go_enter Tryz.func122, Tryz.ntmps122
  go_wp2
  go_ret
  exact ⟨ret_bool (by simp), rfl⟩
def cmpI (x y : Int) : Int := if x < y then -1 else if y < x then 1 else 0
theorem Compare_u64 (x y : Int) (w : World) : Calls Tryz.prog 106 #[.int .u64 x, .int .u64 y] w fun e w' => e = .returned (.int .i64 (cmpI x y)) ∧ w = w' := by
  go_enter Tryz.func106, Tryz.ntmps106
  by_cases h1 : x < y
  · have hc : Hid (cmpI x y = -1) := by show _ = _; unfold cmpI; rw [if_pos h1]
    go_wp2_with (go_at_call 122; refine (isNaN_u64 _ _).mono ?_; rintro e w1 ⟨rfl, rfl⟩)
    go_ret
    exact ⟨ret_int hc.out.symm, rfl⟩
  · by_cases h2 : y < x
    · have hc : Hid (cmpI x y = 1) := by show _ = _; unfold cmpI; rw [if_neg h1, if_pos h2]
      go_wp2_with (go_at_call 122; refine (isNaN_u64 _ _).mono ?_; rintro e w1 ⟨rfl, rfl⟩)
      go_ret
      exact ⟨ret_int hc.out.symm, rfl⟩
    · have hc : Hid (cmpI x y = 0) := by show _ = _; unfold cmpI; rw [if_neg h1, if_neg h2]
      go_wp2_with (go_at_call 122; refine (isNaN_u64 _ _).mono ?_; rintro e w1 ⟨rfl, rfl⟩)
      go_ret
      exact ⟨ret_int hc.out.symm, rfl⟩

theorem cmpU (a b q : Int) (h : cmpI a b = q) (w : World) : Calls Tryz.prog 106 #[.int .u64 a, .int .u64 b] w fun e w' => e = .returned (.int .i64 q) ∧ w' = w := by
  rw [← h]; exact (Compare_u64 a b w).mono fun e w' ⟨h1, h2⟩ => ⟨h1, h2.symm⟩
theorem KU_cell {w : World} {A : Option Addr} {x : Int} (h : Kd.C KU w A 1 [x]) : ∃ ad, A = some ad ∧ w.cell? ad = some (.int .u64 x) := by
  obtain ⟨ad, e, hc⟩ := C_cell (l := [x]) h 0 (by simp)
  rw [Addr.add_zero'] at hc
  exact ⟨ad, e, hc⟩
set_option maxHeartbeats 1000000 in
theorem trim1 (A : Option Addr) (c : Nat) (x : Int) (w : World) (hr : Kd.C KU w A 1 [x]) (hx : x ≠ 0) :
    Calls Tryz.prog 91 #[.slice A 1 c] w fun e w' => e = .returned (.slice A 1 c) ∧ w = w' := by
  obtain ⟨ad, rfl, hcell⟩ := KU_cell hr
  have hx0 : (x == 0) = false := by simpa using hx
  have hx1 : decide (x = 0) = false := by simpa using hx
  clear hr hx
  go_enter Tryz.func91, Tryz.ntmps91
  go_wp2
  go_loopw [0] (fun v wr => v = .slice (some ad) 1 c ∧ wr = w) (fun _ _ => 0)
  case atStart => exact ⟨rfl, rfl⟩
  case round =>
    obtain ⟨rfl, rfl⟩ := hrel
    go_wp2
    go_ret
    exact ⟨rfl, rfl⟩

set_option maxHeartbeats 1000000 in
theorem turned1 (A : Option Addr) (c : Nat) (w : World) :
    Calls Tryz.prog 75 #[.agg #[.slice A 1 c, .bool false]] w fun e w' => e = .returned (.agg #[.slice A 1 c, .bool true]) ∧ Below w.heap.size w w' := by
  have HB := Lib.hid (Below.refl w.heap.size w)
  go_enter Tryz.func75, Tryz.ntmps75
  go_wp2
  refine bodyPost_ret (v := .agg #[.slice A 1 c, .bool true]) (by simp [results, Tryz.results75, go_sem]) rfl ?_
  exact ⟨rfl, below_alloc (below_alloc HB.out _) _⟩

theorem at1 (A : Option Addr) (c : Nat) (x : Int) (w : World) (hr : Kd.C KU w A 1 [x]) :
    Calls Tryz.prog 103 #[.slice A 1 c, .int .i64 0] w fun e w' => e = .returned (.int .u64 x) ∧ w = w' := by
  obtain ⟨ad, rfl, hcell⟩ := KU_cell hr
  clear hr
  go_enter Tryz.func103, Tryz.ntmps103
  go_wp2
  go_ret
  exact ⟨rfl, rfl⟩

/-- A number of one part. -/
structure Small (s : ByteArray) (a : Int) : Prop where
  size : 1 ≤ s.size ∧ s.size ≤ 9
  bare : bare s = s
  parse : ∃ u : Nat, Lib.parseUintB 64 s.data.toList = .ok u ∧ (u : Int) = a
  pos : 0 < a ∧ a < 1000000000
  first : ∀ h : 0 < s.size, (((s[0]'h).toNat : Int) == 45) = false
  all : s.extract 0 s.size = s
  none : s.extract 0 0 = ⟨#[]⟩
def IsOne (w : World) (v : Value) (a : Int) : Prop := IsRow KU w v [a]
theorem IsOne.below {w w1 : World} {v : Value} {a : Int} (h : IsOne w v a) (hb : Below w.heap.size w w1) : IsOne w1 v a := IsRow.below h hb
def strSz (v : Value) : Nat := match v with | .string s => s.size | _ => 0

set_option maxRecDepth 100000 in
set_option maxHeartbeats 2000000 in
theorem read1 (s : ByteArray) (a : Int) (w : World) (h : Small s a) :
    Calls Tryz.prog 74 #[.string s] w fun e w' => ∃ v, e = .returned (.agg #[v, .bool false]) ∧ IsOne w' v a ∧ Below w.heap.size w w' := by
  obtain ⟨u, hu, hua⟩ := h.parse
  have hs1 := h.size.1
  have hs9 := h.size.2
  have cT := Lib.hid (h.bare ▸ bare_calls s)
  have cU := Lib.hid (Tryz.strconv_ParseUint_10_at64_ok s (by omega) u hu)
  have hall := h.all
  have hm : Hid ((s.size : Int) - 9 ≤ 0) := by show _ ≤ _; omega
  go_enter Tryz.func74, Tryz.ntmps74
  clear hu
  have hmax : max ((s.size : Int) - 9) 0 = 0 := by omega
  have hp0 : (0 : Int) < (s.size : Int) := by omega
  have hd0 : decide (0 < s.size) = true := by simp; omega
  have hb := blk_new w (.cells #[.slice none 0 0, .bool false] 99)
  have BX := Lib.hid hb
  have HB0 := Lib.hid (below_alloc (Below.refl w.heap.size w) (.cells #[.slice none 0 0, .bool false] 99))
  clear hb
  go_wp2_with (go_at_call 53; refine (cT.out _).mono ?_; rintro e w1 ⟨rfl, rfl⟩)
  go_loopw [3, 4] (fun f m wr => Hid (wr.heap[w.heap.size]? = some (.cells #[.slice none 0 0, .bool false] 99 (0, 0))) ∧ Hid (Below w.heap.size w wr) ∧ ((f = .string s ∧ m = .slice none 0 0) ∨ (f = .string ⟨#[]⟩ ∧ Hid (Ow KU 125 w.heap.size m [a] wr)))) (fun f _ _ => strSz f)
  case atStart => exact ⟨BX.out, HB0.out, .inl ⟨rfl, rfl⟩⟩
  case round =>
    obtain ⟨hbox, hb, ⟨rfl, rfl⟩ | ⟨rfl, ho⟩⟩ := hrel
    · go_wp2_with fail
      refine (cU.out _).mono ?_
      rintro e w1 ⟨rfl, hw⟩
      have hb1 : Below wr.heap.size wr w1 := by
        rcases hw with rfl | rfl
        · exact Below.refl _ _
        · exact Lib.bytesWorld_below _ _ _
      have HB1 := Lib.hid (hb.out.trans (hb1.mono hb.out.size))
      have hbox1 := Lib.hid (blk_below hbox.out hb1)
      have hex0 := h.none
      clear hw hb1 hbox hb
      go_wp2_with (at_builtin; go_must (refine Kd.R_append KU (w0 := w) w.heap.size rfl (.tmp 24) (.tmp 26) 97 125 (.int .u64 0) 8 rfl Tryz.underlying97 info_u64 rfl (by decide) (by omega) (.slice none 0 0) [] a [.int .u64 a] (fun _ => True) (fun _ => False) rfl rfl rfl (fun _ hk => hk.elim) (fun _ _ => trivial) (Kd.R_nil _ _ _ _ _) HB1.out HB1.out.size (by simp) ?_); intro v1 w2 hR hb2 hg2 _; have HO2 := Lib.hid (Ow.mk hR); have HB2 := Lib.hid hb2; have hbox2 := Lib.hid (blk_grown hbox1.out hg2 (by simp [Value.ownBlock])); clear hR hb2 hg2)

      go_roundw
      case rel => exact ⟨hbox2.out, HB2.out, .inr ⟨rfl, HO2.out⟩⟩
      case measure => simp [strSz]; omega
    · obtain ⟨A1, d1, rfl, hd1, hc1⟩ := ho.out.row
      have HR := Lib.hid (((ho.out.set hbox.out (by decide) 0 (.slice A1 1 d1)).set (blk_set hbox.out 0 (.slice A1 1 d1)) (by decide) 1 (.bool false)).row)
      have cR := Lib.hid (trim1 A1 d1 a wr hc1 (by have := h.pos.1; omega))
      have HC1 := Lib.hid hc1
      have k0 : wr.cell? ⟨w.heap.size, 0, none⟩ = some (.slice none 0 0) := blk_cell hbox.out 0
      have k1 : wr.cell? ⟨w.heap.size, 1, none⟩ = some (.bool false) := blk_cell hbox.out 1
      have f0 := blk_frozen hbox.out 0
      have f1 := blk_frozen hbox.out 1
      have hfi := h.first (by omega)
      clear hc1
      go_wp2_with (go_at_call 91; refine cR.out.mono ?_; rintro e w1 ⟨rfl, rfl⟩)
      refine bodyPost_ret (v := .agg #[.slice A1 1 d1, .bool false]) (by simp [results, Tryz.results74, go_sem, k0, k1]) rfl ?_
      exact ⟨_, rfl, HR.out, (hb.out.setCell (p := ⟨w.heap.size, 0, none⟩) (Nat.le_refl _) _).setCell (p := ⟨w.heap.size, 1, none⟩) (Nat.le_refl _) _⟩

set_option maxRecDepth 100000 in
set_option maxHeartbeats 2000000 in
theorem less1 (u v : Value) (a b : Int) (w : World) (hu : IsOne w u a) (hv : IsOne w v b) (hb0 : 0 < b) (hab : b < a) (ha : a < 1000000000) :
    Calls Tryz.prog 89 #[u, v] w fun e w' => ∃ r, e = .returned r ∧ Ow KU 125 w.heap.size r [a - b] w' ∧ Below w.heap.size w w' := by
  obtain ⟨A, c, rfl, hc, hr⟩ := hu
  obtain ⟨B, d, rfl, hd, hs⟩ := hv
  have HS := Lib.hid hs
  have HR := Lib.hid hr
  obtain ⟨ad, rfl, hcell⟩ := KU_cell hr
  have cAt := Lib.hid (fun (W : World) (h : Below w.heap.size w W) => at1 B d b W (Kd.C_below HS.out h))
  have e1 : IntKind.u64.wrap (a + 1000000000) = a + 1000000000 := by rw [IntKind.wrap_u64]; omega
  have e2 : IntKind.u64.wrap (a + 1000000000 - b) = a + 1000000000 - b := by rw [IntKind.wrap_u64]; omega
  have e3 : IntKind.u64.wrap (a + 1000000000 - b - 0) = a + 1000000000 - b := by rw [IntKind.wrap_u64]; omega
  have e4 : Int.tmod (a + 1000000000 - b) 1000000000 = a - b := by
    rw [Int.tmod_eq_emod_of_nonneg (by omega)]; omega
  have e5 : Int.tdiv (a + 1000000000 - b) 1000000000 = 1 := by
    rw [Int.tdiv_eq_ediv_of_nonneg (by omega)]; omega
  have e6 : IntKind.u64.wrap (a - b) = a - b := by rw [IntKind.wrap_u64]; omega
  clear hr hs
  obtain ⟨p, hp⟩ : ∃ p, a - b = p := ⟨_, rfl⟩
  rw [hp] at e4 e6
  have hp0 : p ≠ 0 := by omega
  rw [hp]
  clear hp
  go_enter Tryz.func89, Tryz.ntmps89
  go_wp2
  go_loopw [5, 6, 11] (fun m bo i wr => Hid (Below w.heap.size w wr) ∧ ((m = .slice none 0 0 ∧ bo = .int .u64 0 ∧ i = .int .i64 0) ∨ (bo = .int .u64 0 ∧ i = .int .i64 1 ∧ Hid (Ow KU 125 w.heap.size m [p] wr)))) (fun _ _ i _ => 1 - (intOf i).toNat)
  case atStart => exact ⟨Below.refl _ _, .inl ⟨rfl, rfl, rfl⟩⟩
  case round =>
    obtain ⟨hb, ⟨rfl, rfl, rfl⟩ | ⟨rfl, rfl, ho⟩⟩ := hrel
    · have hcell2 := pw_cell_below hb.out hcell
      go_wp2_with fail
      go_region_law (first
        | (go_simp
           go_at_call 103
           refine (cAt.out _ (by first | exact hb.out.drew | exact hb.out)).mono ?_
           rintro e w6 ⟨rfl, rfl⟩))
      all_goals
        have HBd := Lib.hid hb.out.drew
        go_wp2_with (at_builtin; go_must (refine Kd.R_append KU (w0 := w) w.heap.size rfl (.tmp 25) (.tmp 28) 97 125 (.int .u64 0) 8 rfl Tryz.underlying97 info_u64 rfl (by decide) (by omega) (.slice none 0 0) [] p [.int .u64 p] (fun _ => True) (fun _ => False) rfl rfl rfl (fun _ hk => hk.elim) (fun _ _ => trivial) (Kd.R_nil _ _ _ _ _) HBd.out HBd.out.size (by simp) ?_); intro v1 w2 hR hb2 hg2 _; have HO2 := Lib.hid (Ow.mk hR); have HB2 := Lib.hid hb2; clear hR hb2 hg2)
        go_roundw
        case rel => exact ⟨HB2.out, .inr ⟨by simp, by simp, HO2.out⟩⟩
        case measure => simp [intOf]
    · obtain ⟨A1, d1, rfl, hd1, hc1⟩ := ho.out.row
      have cR := Lib.hid (trim1 A1 d1 p wr hc1 hp0)
      clear hc1
      go_wp2_with (go_at_call 91; refine cR.out.mono ?_; rintro e w1 ⟨rfl, rfl⟩)
      go_ret
      exact ⟨_, rfl, ho.out, hb.out⟩

theorem rf1 {F : Fence} {n : Nat} {P : Program} {α : Type} {g : Operand} {assign body : Code} {Q : Exit → Act → World → Prop} {a : Act} {w : World} (p1 p2 d1 : Nat) (v1 v2 : α → Value)
    (hro : F.round = none) (h1 : 1 ≤ n) {gf : Nat} {lb : Array Value} (hg : a.eval g = .func (.func gf) #[] lb) (hFg : F.fn gf) (eg : ∀ args w, (callFunc gf args).run P w = .ok (.enter gf args) w)
    {Kp : World → World → Prop} {S Sp : List α → Prop} {N : Nat} {w0 : World} (hseq : SeqStopsK F (n - 1) P gf lb (fun x => #[v1 x, v2 x]) Kp S Sp N w0)
    (hKt : ∀ {A B C : World}, Kp A B → Kp B C → Kp A C) (hKb : ∀ (W : World) (l : Nat) (o o' : Obj), w.heap.size ≤ l → W.heap[l]? = some o → o.isCells = false → o.isWalk = false → Kp W (W.putObj l o')) (hb0 : Below w0.heap.size w0 w)
    (I : List α → World → Prop) (Ix : Code → List α → World → Prop) (hI : OwnFrom w.heap.size I) (hIx : ∀ c, OwnFrom w.heap.size (Ix c)) (h0 : I [] w)
    (hassign : ∀ (l : Nat) (x : α) (W : World) (K : Act → World → Prop), K { tmps := ((a.tmps.setIfInBounds p1 (v1 x)).setIfInBounds p2 (v2 x)).setIfInBounds d1 (v1 x), defers := [] } W →
      assign.wpIn (F.inRound l) (n - 1 - 1) P (Exit.then K (fun _ _ _ => False)) { tmps := (a.tmps.setIfInBounds p1 (v1 x)).setIfInBounds p2 (v2 x), defers := [] } W)
    (hbody : ∀ (l : Nat) (pre : List α) (x : α) (W : World), I pre W → pre.length < N → body.wpIn (F.inRound l) (n - 1 - 1) P (ownPostG w.heap.size Kp I Ix (pre ++ [x]) W) { tmps := ((a.tmps.setIfInBounds p1 (v1 x)).setIfInBounds p2 (v2 x)).setIfInBounds d1 (v1 x), defers := [] } W)
    (hdone : ∀ (D : Nat) (xs : List α) (W : World), w.heap.size ≤ D → S xs → I xs W → W.heap[D]? = some (.deferred (some [])) → Q .normal { a with defers := { target := .collected D, args := #[] } :: a.defers } W)
    (hstop : ∀ (D : Nat) (c : Code) (pre : List α) (W : World), w.heap.size ≤ D → Sp pre → Ix c pre W → W.heap[D]? = some (.deferred (some [])) → c.wpIn F n P Q { a with defers := { target := .collected D, args := #[] } :: a.defers } W) :
    (Code.rangeFunc g #[p1, p2] assign body).wpIn F n P Q a w :=
  wpIn_rangeFunc_ownG hro h1 hg hFg eg hseq hKt hKb hb0 (fun _ => rfl) I Ix hI hIx h0 _ (fun l x W K hK => by simpa using hassign l x W K hK) hbody hdone hstop
section
variable {F : Fence} {n : Nat} {P : Program} {ops : Array Oper} {md : Region.Mode} {Q : Exit → Act → World → Prop}
/-- In a round an operation that defers nothing is carried out as everywhere. -/
theorem opR (r : Nat) (hro : F.round = none) (hnd : ∀ (j : Nat) (o : Oper), ops[j]? = some o → ∀ c, o.op ≠ Op.defer c) {i : Nat} {K : Act → World → Prop} {a : Act} {w : World} (h : wpOpIn F n P ops Q i K a w) : wpOpIn (F.inRound r) n P ops Q i K a w := by
  unfold wpOpIn at *
  cases ho : ops[i]? with
  | none => simpa [ho] using h
  | some o =>
    simp only [ho] at h ⊢
    by_cases hw : Region.wanted o (yielded ops a.tmps) = true
    · simp only [hw, if_true] at h ⊢
      unfold Oper.wpIn at *
      refine ⟨h.1, ?_⟩
      have h := h.2
      rw [hro, Oper.semAt_none] at h
      rw [Oper.semAt_eq (F.inRound r).round _ _ (hnd i o ho)]
      generalize (execOp a.eval o).run P w = res at *
      cases res with
      | ok x w' => cases x <;> exact h
      | halt x w' => cases x <;> exact h
    · simp only [hw] at h ⊢
      exact h
theorem anyR (r : Nat) (hro : F.round = none) (hnd : ∀ (j : Nat) (o : Oper), ops[j]? = some o → ∀ c, o.op ≠ Op.defer c) : ∀ (fuel : Nat) (listed : Array Bool) (a : Act) (w : World), wpAnyIn F n P md ops Q fuel listed a w → wpAnyIn (F.inRound r) n P md ops Q fuel listed a w := by
  intro fuel
  induction fuel with
  | zero => exact fun _ _ _ h => h
  | succ fuel ih => exact fun listed a w h => ⟨h.1, fun i hi => opR r hro hnd (wpOpIn_mono (fun a w => ih _ a w) (h.2 i hi))⟩
/-- A quiet region in a round. -/
theorem quiet_round (r : Nat) {id : Nat} {a : Act} {w : World} {l : List Oper} (hro : F.round = none) (hm : P.follows .mixedOrders = true) (hnd : ∀ (j : Nat) (o : Oper), l.toArray[j]? = some o → ∀ c, o.op ≠ Op.defer c) (hB : Region.lexB .any l.toArray = true)
    (h : wpQuietIn F n P l.toArray (fun w' => ∃ n, w' = w.drewN n) (fun a' => ∀ w', (∃ n, w' = w.drewN n) → Q .normal a' w') l a) : (Code.region id l.toArray true).wpIn (F.inRound r) n P Q a w := by
  simp only [Region.lexB, Bool.and_eq_true] at hB
  refine wpIn_region_any hm (anyR r hro hnd _ _ _ _ (wpAnyIn_of_quiet (C := fun w' => ∃ n, w' = w.drewN n) (Q := fun a' => ∀ w', (∃ n, w' = w.drewN n) → Q .normal a' w') hro (fun _ w' hw' h => h w' hw') _ _ _ _ ⟨1, rfl⟩ ?_))
  have := wpAnyQIn_lex (F := F) (n := n) (C := fun w' => ∃ n, w' = w.drewN n) (md := .any) hB.1 l.toArray.toList 0 (Array.replicate l.toArray.size false) a (by simp) (by simpa using hB.2) (by simpa using h)
  simpa using this
end
/-- Worlds that a range may pass through: nothing below base turns. -/
theorem own_below (base : Nat) (w : World) (n : Nat) (h : base ≤ n) (hs : base ≤ w.heap.size) {α : Type} (p : α → Prop) : OwnFrom n (fun (x : α) W => p x ∧ Below base w W) := by
  rintro x A B row ⟨h1, h2⟩ hg hr
  exact ⟨h1, h2.grown hg (Nat.le_trans hs h2.size) (fun j e => Nat.le_trans h (hr j e).1)⟩

set_option maxRecDepth 100000 in
set_option maxHeartbeats 4000000 in
theorem compare1 (u v : Value) (a b : Int) (w : World) (hu : IsOne w u a) (hv : IsOne w v b) (hne : a ≠ b) :
    Calls Tryz.prog 88 #[u, v] w fun e w' => e = .returned (.int .i64 (cmpI a b)) ∧ Below w.heap.size w w' := by
  have hc0 : cmpI a b ≠ 0 := by
    unfold cmpI
    split
    · decide
    · split
      · decide
      · exact fun _ => hne (by omega)
  obtain ⟨q, hq⟩ : ∃ q, cmpI a b = q := ⟨_, rfl⟩
  have HQ := Lib.hid hq
  rw [hq] at hc0
  have hq1 : (q == 0) = false := by simpa using hc0
  have hq2 : (q != 0) = true := by simpa using hc0
  rw [hq]
  clear hq hc0
  obtain ⟨A, c, rfl, hc, hr⟩ := hu
  obtain ⟨B, d, rfl, hd, hs⟩ := hv
  obtain ⟨ad, rfl, hcell⟩ := KU_cell hr
  obtain ⟨bd, rfl, hcell'⟩ := KU_cell hs
  have HR := Lib.hid hr
  have hW := below_alloc (below_alloc (below_alloc (Below.refl w.heap.size w) (.cells #[.slice (some ad) 1 c] 97)) (.cells #[.slice (some bd) 1 d] 97)) (.cells #[.int .i64 0] 3)
  have b0 := Lib.hid (blk_alloc (blk_alloc (blk_new w (.cells #[.slice (some ad) 1 c] 97)) (.cells #[.slice (some bd) 1 d] 97)) (.cells #[.int .i64 0] 3))
  have b1 := blk_alloc (blk_new (w.alloc (.cells #[.slice (some ad) 1 c] 97)) (.cells #[.slice (some bd) 1 d] 97)) (.cells #[.int .i64 0] 3)
  have b2 := blk_new ((w.alloc (.cells #[.slice (some ad) 1 c] 97)).alloc (.cells #[.slice (some bd) 1 d] 97)) (.cells #[.int .i64 0] 3)
  simp only [World.size_alloc] at b1 b2
  have B1 := Lib.hid b1; have B2 := Lib.hid b2
  have HW := Lib.hid hW
  have HN := Lib.hid hne
  have HC1 := Lib.hid hcell
  have HC2 := Lib.hid hcell'
  clear hr hs hW b1 b2 hcell hcell' hne
  refine callsIn_wide.1 (callsIn_of_wp_marks (n := 3) Tryz.func88 rfl trivial ?_ rfl)
  refine wpIn_wide.2 ?_
  simp only [Tryz.ntmps88, List.size_toArray, List.length_cons, List.length_nil, Nat.reduceAdd, Nat.reduceSub, Array.replicate_succ, Array.replicate_zero, List.push_toArray, List.append_toArray, List.nil_append, List.cons_append]
  go_wp2_with (first
    | (go_at_call 104; refine (Tryz.cmp_Compare_int 1 1 _).mono ?_; rintro e w1 ⟨rfl, hw⟩; subst hw; have h0 : Lib.compareInt 1 1 = 0 := rfl; rw [h0])
    | (go_at_call 105; refine Calls.mono (callsIn_wide.1 (back_mag 2 _ _ _ _)) ?_; rintro e w2 ⟨rfl, rfl⟩))
  have hbx := blk_new (((w.alloc (.cells #[.slice (some ad) 1 c] 97)).alloc (.cells #[.slice (some bd) 1 d] 97)).alloc (.cells #[.int .i64 0] 3)) (.cells #[.slice (some ad) 1 c] 97)
  simp only [World.size_alloc] at hbx
  have hB4 := below_alloc HW.out (.cells #[.slice (some ad) 1 c] 97)
  have b04 := blk_alloc b0.out (.cells #[.slice (some ad) 1 c] 97)
  have b14 := blk_alloc B1.out (.cells #[.slice (some ad) 1 c] 97)
  have b24 := blk_alloc B2.out (.cells #[.slice (some ad) 1 c] 97)
  obtain ⟨w2, hw2⟩ : ∃ w2, (((w.alloc (.cells #[.slice (some ad) 1 c] 97)).alloc (.cells #[.slice (some bd) 1 d] 97)).alloc (.cells #[.int .i64 0] 3)).alloc (.cells #[.slice (some ad) 1 c] 97) = w2 := ⟨_, rfl⟩
  have hz2 : w2.heap.size = w.heap.size + 1 + 1 + 1 + 1 := by rw [← hw2]; simp
  rw [hw2] at hbx hB4 b04 b14 b24
  rw [hw2]
  have B04 := Lib.hid b04; have B14 := Lib.hid b14; have B24 := Lib.hid b24; have HB4 := Lib.hid hB4
  clear hw2 b04 b14 b24
  refine (wpIn_wide (n := 3)).1 ?_
  refine rf1 18 19 6 (fun i : Fin [a].length => .int .i64 (i.1 : Int)) (fun i : Fin [a].length => .int .u64 [a][i.1]) rfl (by decide) (gf := 121) (lb := #[.pointer (some ⟨w.heap.size + 1 + 1 + 1, 0, none⟩)]) rfl trivial (enters_of Tryz.func121 (by kernel_rfl) rfl) (Kp := KpB w.heap.size (w.heap.size + 1 + 1 + 1)) (w0 := w2)
    (back_stops_mag 2 (by decide) (w.heap.size + 1 + 1 + 1) (some ad) c [a] w w2 HR.out hB4 hbx) KpB_t (KpB_b (w0 := w) (w := w2) (Bs := w.heap.size + 1 + 1 + 1) (by omega) (by omega)) (Below.refl _ _)
    (fun pre W => pre = [] ∧ Below w2.heap.size w2 W) (fun cc pre W => (cc = .ret ∧ W.heap[w.heap.size + 1 + 1]? = some (.cells #[.int .i64 q] 3 (0, 0))) ∧ Below w.heap.size w W)
    (own_below w2.heap.size w2 w2.heap.size (Nat.le_refl _) (Nat.le_refl _) (fun pre => pre = []))
    (fun cc => by
      rintro pre X Y row ⟨⟨h1, h2⟩, h3⟩ hg hr
      exact ⟨⟨h1, (hg.block _ (blk_lt h2) (fun e => by have := (hr _ e.symm).1; omega)).trans h2⟩, h3.grown hg h3.size (fun j e => by have := (hr j e).1; omega)⟩)
    ⟨rfl, Below.refl _ _⟩ ?assign ?body ?done ?stop
  case assign =>
    intro l i W K hK
    simp only [List.setIfInBounds_toArray, List.set_cons_zero, List.set_cons_succ] at hK ⊢
    gi_wp2
    exact hK
  case body =>
    rintro l pre i W ⟨rfl, hb⟩ hlt
    obtain ⟨i, hi⟩ := i
    have hi0 : i = 0 := by simp at hi; omega
    subst hi0
    have k0 : W.cell? ⟨w.heap.size, 0, none⟩ = some (.slice (some ad) 1 c) := blk_cell (blk_below B04.out hb) 0
    have k1 : W.cell? ⟨w.heap.size + 1, 0, none⟩ = some (.slice (some bd) 1 d) := blk_cell (blk_below B14.out hb) 0
    have B2W := Lib.hid (blk_below B24.out hb)
    have k2 : W.cell? ⟨w.heap.size + 1 + 1, 0, none⟩ = some (.int .i64 0) := blk_cell B2W.out 0
    have f2 := blk_frozen B2W.out 0
    have HBW := Lib.hid (HB4.out.trans (hb.mono HB4.out.size))
    have kc := pw_cell_below HBW.out HC1.out
    have kd := pw_cell_below HBW.out HC2.out
    have hmo : Tryz.prog.follows .mixedOrders = true := by kernel_rfl
    have h1n : 1 ≤ 3 - 1 - 1 := by decide
    have hsz := hb.size
    clear hb
    simp only [List.setIfInBounds_toArray, List.set_cons_zero, List.set_cons_succ, List.getElem_cons_zero]
    gi_wp2_with fail
    clear hbx hB4 hc hd b0 B1 B2 HW HR HC1 HC2
    refine quiet_round (n := 1) l rfl hmo (by
      intro j o ho cc
      match j, ho with
      | 0, ho => simp at ho; rw [← ho]; simp
      | 1, ho => simp at ho; rw [← ho]; simp
      | 2, ho => simp at ho; rw [← ho]; simp
      | 3, ho => simp at ho; rw [← ho]; simp
      | 4, ho => simp at ho; rw [← ho]; simp
      | 5, ho => simp at ho; rw [← ho]; simp
      | 6, ho => simp at ho; rw [← ho]; simp
      | 7, ho => simp at ho; rw [← ho]; simp
      | 8, ho => simp at ho; rw [← ho]; simp
      | 9, ho => simp at ho; rw [← ho]; simp
      | j + 10, ho => simp at ho) (by kernel_rfl) ?_
    repeat
      (refine wpQuietIn_step (fun _ _ _ _ => trivial) (fun K hK => ?_)
       go_simp
       first
         | (refine hK _ ?_; clear hK K)
         | (apply Exists.intro
            refine ⟨fun _ => ?_, hK _ ?_⟩
            (gi_at_call 106; refine CallsIn.quiet_of_same (callsIn_wide.2 (cmpU a b q HQ.out _)))
            clear hK K))
    refine wpQuietIn_nil ?_
    intro _ hw'
    obtain ⟨nq, hw''⟩ := hw'
    subst hw''
    gi_wp2
    refine ⟨⟨by simp [World.setCell], fun k o hB hk ho => (Below.heap_setCell _ _ _ _ (by simp; omega)).trans hk⟩, ⟨rfl, blk_set (w := W.drewN nq) B2W.out 0 (.int .i64 q)⟩, (pw_below_drewN HBW.out nq).setCell (p := ⟨w.heap.size + 1 + 1, 0, none⟩) (by simp; omega) _⟩
  case done =>
    rintro D ys W hD rfl ⟨hys, hb⟩ hK
    have := congrArg List.length hys
    rw [down_len _ _ (Nat.le_refl _)] at this
    simp at this
  case stop =>
    rintro D cc pre W hD _ ⟨⟨rfl, h2⟩, h3⟩ hK
    gi_wp2
    have hg9 := grownBy_putObj' W D (.deferred none)
    have hb9 := (hg9.block _ (blk_lt h2) (by simp; omega)).trans h2
    have k9 := blk_cell hb9 0
    refine ⟨by simp, .inl ⟨_, _, rfl, run_takeDeferred hK, ?_⟩⟩
    refine ⟨.int .i64 q, by simp at k9; simp [results, Tryz.results88, go_sem, k9], rfl, h3.grown hg9 h3.size (fun j e => by cases e; omega)⟩
end Go.Proofs.YthjcnifdlfjieaaGreatDoor.Hs
