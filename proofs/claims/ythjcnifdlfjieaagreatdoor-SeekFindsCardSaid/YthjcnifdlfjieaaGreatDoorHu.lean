import Derived.Test.YthjcnifdlfjieaaGreatDoorHt
set_option linter.unusedVariables false
set_option linter.unusedSimpArgs false
namespace Go.Proofs.YthjcnifdlfjieaaGreatDoor.Hu
open Go.RowKit Go.Shelf Go.Proofs.YthjcnifdlfjieaaGreatDoorW.PrintWords Go.Proofs.YthjcnifdlfjieaaGreatDoor.Ha Go.Proofs.YthjcnifdlfjieaaGreatDoor.Hb Go.Proofs.YthjcnifdlfjieaaGreatDoor.Hc Go.Proofs.YthjcnifdlfjieaaGreatDoor.Hp Go.Proofs.YthjcnifdlfjieaaGreatDoor.Hd Go.Proofs.YthjcnifdlfjieaaGreatDoor.He Go.Proofs.YthjcnifdlfjieaaGreatDoor.Hf Go.Proofs.YthjcnifdlfjieaaGreatDoor.Hg Go.Proofs.YthjcnifdlfjieaaGreatDoor.Hh Go.Proofs.YthjcnifdlfjieaaGreatDoor.Hi Go.Proofs.YthjcnifdlfjieaaGreatDoor.Hm Go.Proofs.YthjcnifdlfjieaaGreatDoor.Hj Go.Proofs.YthjcnifdlfjieaaGreatDoor.Hk Go.Proofs.YthjcnifdlfjieaaGreatDoor.Hl Go.Proofs.YthjcnifdlfjieaaGreatDoor.Hn Go.Proofs.YthjcnifdlfjieaaGreatDoor.Ho Go.Proofs.YthjcnifdlfjieaaGreatDoor.Hq Go.Proofs.YthjcnifdlfjieaaGreatDoor.Hs Go.Proofs.YthjcnifdlfjieaaGreatDoor.Ht

abbrev KI : Kd Int := Kd.int .i64
/-- The queue: its row and its comparison, at block g. -/
def QS (g : Nat) (f : Value) (l : List Int) (W : World) : Prop := ∃ A c, W.heap[g]? = some (.cells #[.slice A l.length c, f] 92 (0, 0)) ∧ Ow KI 3 g (.slice A l.length c) l W
theorem QS.below {g : Nat} {f : Value} {l : List Int} {W W1 : World} (h : QS g f l W) (hb : Below W.heap.size W W1) : QS g f l W1 := by
  obtain ⟨A, c, h1, h2⟩ := h
  exact ⟨A, c, blk_below h1 hb, h2.below hb⟩
/-- The queue at a known row. -/
def QA (g : Nat) (A : Option Addr) (c : Nat) (f : Value) (l : List Int) (W : World) : Prop := W.heap[g]? = some (.cells #[.slice A l.length c, f] 92 (0, 0)) ∧ Ow KI 3 g (.slice A l.length c) l W
theorem QA.qs {g c : Nat} {A : Option Addr} {f : Value} {l : List Int} {W : World} (h : QA g A c f l W) : QS g f l W := ⟨A, c, h⟩
theorem QA.below {g c : Nat} {A : Option Addr} {f : Value} {l : List Int} {W W1 : World} (h : QA g A c f l W) (hb : Below W.heap.size W W1) : QA g A c f l W1 := ⟨blk_below h.1 hb, h.2.below hb⟩
/-- Of the blocks from g on that were there, only g and the row may have turned. -/
structure Fr (g : Nat) (A : Option Addr) (W W' : World) : Prop where
  below : Below g W W'
  rest : ∀ k, k < W.heap.size → k ≠ g → some k ≠ A.map (·.block) → W'.heap[k]? = W.heap[k]?
theorem Fr.refl (g : Nat) (A : Option Addr) (W : World) : Fr g A W W := ⟨Below.refl _ _, fun _ _ _ _ => rfl⟩
theorem Fr.trans {g : Nat} {A : Option Addr} {W W1 W2 : World} (h : Fr g A W W1) (h2 : Fr g A W1 W2) : Fr g A W W2 :=
  ⟨h.below.trans h2.below, fun k hk hg hA => (h2.rest k (Nat.lt_of_lt_of_le hk h.below.size) hg hA).trans (h.rest k hk hg hA)⟩
theorem Fr.of_below {g : Nat} {A : Option Addr} {W W1 : World} (h : Below W.heap.size W W1) (hg : g ≤ W.heap.size) : Fr g A W W1 := ⟨h.mono hg, fun k hk _ _ => h.block k hk⟩
theorem Fr.set {g : Nat} {A : Option Addr} {W W1 : World} (h : Fr g A W W1) {p : Addr} (hg : g ≤ p.block) (hp : p.block = g ∨ some p.block = A.map (·.block)) (u : Value) : Fr g A W (W1.setCell p u) :=
  ⟨h.below.setCell hg u, fun k hk hkg hA => (Below.heap_setCell _ _ _ _ (by rintro rfl; rcases hp with hp | hp; exact hkg hp; exact hA hp)).trans (h.rest k hk hkg hA)⟩
theorem Fr.drew {g : Nat} {A : Option Addr} {W W1 : World} (h : Fr g A W W1) : Fr g A W W1.drew := ⟨h.below.drew, h.rest⟩
abbrev ptr (g : Nat) : Value := .pointer (some ⟨g, 0, none⟩)

theorem Len (g : Nat) (f : Value) (l : List Int) (W : World) (h : QS g f l W) :
    Calls Tryz.prog 71 #[ptr g] W fun e w' => e = .returned (.int .i64 (l.length : Int)) ∧ W = w' := by
  obtain ⟨A, c, h1, h2⟩ := h
  have k0 : W.cell? ⟨g, 0, none⟩ = some (.slice A l.length c) := blk_cell h1 0
  clear h1 h2
  go_enter Tryz.func71, Tryz.ntmps71
  go_wp2
  go_ret
  exact ⟨rfl, rfl⟩

set_option maxHeartbeats 2000000 in
theorem Or2 (g : Nat) (p q : Int) (W : World) (h0 : W.cell? ⟨g, 0, none⟩ = some (.int .i64 p)) (hp : p ≠ 0) :
    Calls Tryz.prog 161 #[.slice (some ⟨g, 0, none⟩) 2 2] W fun e w' => e = .returned (.int .i64 p) ∧ W = w' := by
  have hp1 : (p == 0) = false := by simpa using hp
  have hp2 : (p != 0) = true := by simpa using hp
  clear hp
  go_enter Tryz.func161, Tryz.ntmps161
  go_wp2
  go_loopw [8] (fun i wr => i = .int .i64 0 ∧ wr = W) (fun _ _ => 0)
  case atStart => exact ⟨rfl, rfl⟩
  case round =>
    obtain ⟨rfl, rfl⟩ := hrel
    go_wp2
    go_ret
    exact ⟨rfl, rfl⟩

theorem cell_at {l : List Int} {A : Option Addr} {c g : Nat} {W : World} (h : Ow KI 3 g (.slice A l.length c) l W) (k : Nat) (hk : k < l.length) : ∃ ad, A = some ad ∧ W.cell? (ad.add k) = some (.int .i64 l[k]) := by
  obtain ⟨A', c', e, _, hc⟩ := h.row
  injection e with e1 e2 e3
  subst e1
  exact C_cell hc k hk

set_option maxRecDepth 100000 in
set_option maxHeartbeats 4000000 in
theorem Less (g : Nat) (F : FuncId) (lb : Array Value) (l : List Int) (i k : Nat) (x y c : Int) (W : World) (h : QS g (.func (.func F) #[] lb) l W) (hi : i < l.length) (hk : k < l.length) (hx : l[i] = x) (hy : l[k] = y) (hc0 : c ≠ 0)
    (eg : ∀ args w, (callFunc F args).run Tryz.prog w = .ok (.enter F args) w)
    (hF : ∀ W1, Below W.heap.size W W1 → Calls Tryz.prog F (#[.int .i64 x, .int .i64 y] ++ lb) W1 fun e w' => e = .returned (.int .i64 c) ∧ Below W1.heap.size W1 w') :
    Calls Tryz.prog 157 #[ptr g, .int .i64 i, .int .i64 k] W fun e w' => e = .returned (.bool (decide (c < 0))) ∧ Below W.heap.size W w' := by
  obtain ⟨A, d, h1, h2⟩ := h
  have k0 : W.cell? ⟨g, 0, none⟩ = some (.slice A l.length d) := blk_cell h1 0
  have k1 : W.cell? ⟨g, 1, none⟩ = some (.func (.func F) #[] lb) := blk_cell h1 1
  obtain ⟨ad, rfl, c1⟩ := cell_at h2 i hi
  obtain ⟨ad', e, c2⟩ := cell_at h2 k hk
  injection e with e
  subst e
  rw [hx] at c1
  rw [hy] at c2
  have HF := Lib.hid hF
  have HC := Lib.hid hc0
  have hi0 : (0 : Int) ≤ (i : Int) := Int.natCast_nonneg _
  have hi1 : (i : Int) < (l.length : Int) := by omega
  have hk0 : (0 : Int) ≤ (k : Int) := Int.natCast_nonneg _
  have hk1 : (k : Int) < (l.length : Int) := by omega
  clear h1 h2 hx hy hF hc0
  go_enter Tryz.func157, Tryz.ntmps157
  go_wp2_with fail
  go_region_held3 (fun w' => w'.cell? ⟨g, 0, none⟩ = some (.slice (some ad) l.length d) ∧ w'.cell? ⟨g, 1, none⟩ = some (.func (.func F) #[] lb) ∧ w'.cell? (ad.add i) = some (.int .i64 x) ∧ w'.cell? (ad.add k) = some (.int .i64 y)) (go_keep)
    (first
      | (go_at_call 104
         refine (Tryz.cmp_Compare_int x y _).mono ?_
         rintro e w6 ⟨rfl, hw⟩
         subst hw)
      | (go_at_call 161
         refine (Or2 w6.heap.size c (Lib.compareInt x y) _ ?kk HC.out).mono ?_
         (case kk => exact blk_cell (blk_new w6 (.cells #[.int .i64 c, .int .i64 (Lib.compareInt x y)] 3)) 0)
         rintro e w7 ⟨rfl, hw⟩
         subst hw)
      | (refine (HF.out _ (by first | exact (Below.refl _ _).drew | exact Below.refl _ _)).mono ?_
         rintro e w6 ⟨rfl, hb6⟩
         have hb6' : Below W.heap.size W w6 := (Below.refl _ W).drew.trans (hb6.mono (Nat.le_refl _))
         have q0 := pw_cell_below hb6' k0
         have q1 := pw_cell_below hb6' k1
         have q2 := pw_cell_below hb6' c1
         have q3 := pw_cell_below hb6' c2
         have n0 := World.new_ne w6 _ q0
         have n2 := World.new_ne w6 _ q2
         have n3 := World.new_ne w6 _ q3
         have HB6 := Lib.hid hb6'
         clear hb6 hb6'))
  all_goals
    go_wp2
    go_ret
    exact ⟨rfl, below_alloc HB6.out _⟩
end Go.Proofs.YthjcnifdlfjieaaGreatDoor.Hu
