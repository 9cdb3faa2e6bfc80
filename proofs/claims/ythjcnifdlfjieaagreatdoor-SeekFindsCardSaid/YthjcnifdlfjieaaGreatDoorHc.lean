import Derived.Test.YthjcnifdlfjieaaGreatDoorHb
import Derived.WalkSpells
import Derived.Deep.DeepMust
import Derived.WalkLawsBesides
set_option linter.unusedVariables false
set_option linter.unusedSimpArgs false
namespace Go.Proofs.YthjcnifdlfjieaaGreatDoor.Hc
open Go.RowKit Go.Shelf Go.Proofs.YthjcnifdlfjieaaGreatDoorW.PrintWords Go.Proofs.YthjcnifdlfjieaaGreatDoor.Ha Go.Proofs.YthjcnifdlfjieaaGreatDoor.Hb

theorem info_int : (Tryz.prog.info? 3).map (fun i => (i.zero, i.size, i.bytes)) = some (some (.int .i64 0), 1, 8) := by kernel_rfl
theorem info_string : (Tryz.prog.info? 9).map (fun i => (i.zero, i.size, i.bytes)) = some (some (.string ⟨#[]⟩), 1, 16) := by kernel_rfl
/-- A value that reads as a list of scalars. -/
def IsRow {α : Type} (d : Kd α) (w : World) (v : Value) (l : List α) : Prop := ∃ A c, v = .slice A l.length c ∧ l.length ≤ c ∧ Kd.C d w A l.length l
theorem IsRow.below {α : Type} {d : Kd α} {w w1 : World} {v : Value} {l : List α} (h : IsRow d w v l) (hb : Below w.heap.size w w1) : IsRow d w1 v l := by
  obtain ⟨A, c, rfl, hc, hr⟩ := h
  exact ⟨A, c, rfl, hc, Kd.C_below hr hb⟩
theorem IsRow.of_R {α : Type} {d : Kd α} {e : Nat} {w : World} {base : Nat} {ok : Nat → Prop} {v : Value} {l : List α} (h : Kd.R d e w base ok v l) : IsRow d w v l := Kd.R_reads h
theorem IsRow.nil {α : Type} (d : Kd α) (w : World) (A : Option Addr) (c : Nat) : IsRow d w (.slice A 0 c) [] := ⟨A, c, rfl, Nat.zero_le _, rfl, by simp, fun h => absurd h (by simp)⟩
/-- A fact that the walk does not look into. -/
structure Ow {α : Type} (d : Kd α) (e : Nat) (base : Nat) (v : Value) (l : List α) (w : World) : Prop where mk :: (out : Kd.R d e w base (fun _ => True) v l)
theorem Ow.row {α : Type} {d : Kd α} {e base : Nat} {v : Value} {l : List α} {w : World} (h : Ow d e base v l w) : IsRow d w v l := IsRow.of_R h.out
theorem Ow.lower {α : Type} {d : Kd α} {e base base' : Nat} {v : Value} {l : List α} {w : World} (h : Ow d e base v l w) (hb : base' ≤ base) : Ow d e base' v l w := ⟨Kd.R_lower h.out hb⟩
theorem Ow.set {α : Type} {d : Kd α} {e base : Nat} {v : Value} {l : List α} {w : World} (h : Ow d e base v l w) {g t : Nat} {cs : Array Value} (hb : w.heap[g]? = some (.cells cs t (0, 0))) (ht : ∀ q, q ∈ e :: d.E → q ≠ t) (j : Nat) (u : Value) : Ow d e base v l (w.setCell ⟨g, j, none⟩ u) := ⟨Kd.R_set h.out hb ht j u⟩
theorem Ow.below {α : Type} {d : Kd α} {e base : Nat} {v : Value} {l : List α} {w w1 : World} (h : Ow d e base v l w) (hb : Below w.heap.size w w1) : Ow d e base v l w1 := ⟨Kd.R_below h.out hb⟩

set_option maxHeartbeats 1000000 in
theorem Clone_int (A : Option Addr) (c : Nat) (l : List Int) (w : World) (hr : Kd.C (Kd.int .i64) w A l.length l) (hc : l.length ≤ c) (hn : l.length ≤ 4294967296) :
    Calls Tryz.prog 26 #[.slice A l.length c] w fun e w' => ∃ v, e = .returned v ∧ Ow (Kd.int .i64) 3 w.heap.size v l w' ∧ Below w.heap.size w w' := by
  have HR := Lib.hid hr
  have hz0 : A = none → Hid (l = []) := fun h => by
    rcases l with _ | ⟨x, l⟩
    · rfl
    · obtain ⟨ad, e, _⟩ := hr.2.2 (by simp)
      rw [h] at e; cases e
  clear hr
  cases A with
  | none =>
    have hl := hz0 rfl
    clear hz0
    have eqn := fun (w : World) (a : Option Addr) (n c n' c' : Nat) => Lib.run_eql_slice_nil (P := Tryz.prog) w 22 3 a n c n' c' Tryz.underlying22
    go_enter Tryz.func26, Tryz.ntmps26
    go_wp2
    go_ret
    exact ⟨_, rfl, ⟨by rw [hl.out]; exact Kd.R_nil _ _ _ _ _⟩, Below.refl _ _⟩
  | some ad =>
    clear hz0
    have eqn := fun (w : World) (a : Option Addr) (n c n' c' : Nat) => Lib.run_eql_slice_nil (P := Tryz.prog) w 22 3 a n c n' c' Tryz.underlying22
    go_enter Tryz.func26, Tryz.ntmps26
    have HO : Kd.R (Kd.int .i64) 3 (w.alloc (.cells #[] 3)) w.heap.size (fun _ => True) (.slice (some ⟨w.heap.size, 0, none⟩) 0 0) [] := ⟨fun _ _ => trivial, OwnRow.lit w w.heap.size (Reps.none _ _) (Nat.le_refl _) (by simp)⟩
    have HO := Ow.mk HO
    have HC := Lib.hid (Kd.C_below HR.out (below_alloc (Below.refl w.heap.size w) (.cells #[] 3)))
    have HB := Lib.hid (below_alloc (Below.refl w.heap.size w) (.cells #[] 3))
    go_wp2_with (at_builtin; go_must (refine Kd.R_append_row (Value.int .i64) 0 w.heap.size rfl (.tmp 5) (.tmp 6) 22 3 (.int .i64 0) 8 rfl Tryz.underlying22 info_int rfl (by omega) (.slice (some ⟨w.heap.size, 0, none⟩) 0 0) [] l (some ad) l.length c (fun _ => True) rfl rfl (fun _ _ => trivial) HO.out HC.out HB.out (by simp) (by simp; omega) ?_); intro v1 w1 hR hb _ _; have HO1 := Ow.mk hR; have HB1 := Lib.hid hb; clear hR hb)
    go_ret
    exact ⟨_, rfl, HO1, HB1.out⟩

set_option maxHeartbeats 1000000 in
theorem Clone_str (A : Option Addr) (c : Nat) (l : List ByteArray) (w : World) (hr : Kd.C Kd.string w A l.length l) (hc : l.length ≤ c) (hn : l.length ≤ 4294967296) :
    Calls Tryz.prog 61 #[.slice A l.length c] w fun e w' => ∃ v, e = .returned v ∧ Ow Kd.string 9 w.heap.size v l w' ∧ Below w.heap.size w w' := by
  have HR := Lib.hid hr
  have hz0 : A = none → Hid (l = []) := fun h => by
    rcases l with _ | ⟨x, l⟩
    · rfl
    · obtain ⟨ad, e, _⟩ := hr.2.2 (by simp)
      rw [h] at e; cases e
  clear hr
  cases A with
  | none =>
    have hl := hz0 rfl
    clear hz0
    have eqn := fun (w : World) (a : Option Addr) (n c n' c' : Nat) => Lib.run_eql_slice_nil (P := Tryz.prog) w 23 9 a n c n' c' Tryz.underlying23
    go_enter Tryz.func61, Tryz.ntmps61
    go_wp2
    go_ret
    exact ⟨_, rfl, ⟨by rw [hl.out]; exact Kd.R_nil _ _ _ _ _⟩, Below.refl _ _⟩
  | some ad =>
    clear hz0
    have eqn := fun (w : World) (a : Option Addr) (n c n' c' : Nat) => Lib.run_eql_slice_nil (P := Tryz.prog) w 23 9 a n c n' c' Tryz.underlying23
    go_enter Tryz.func61, Tryz.ntmps61
    have HO : Kd.R Kd.string 9 (w.alloc (.cells #[] 9)) w.heap.size (fun _ => True) (.slice (some ⟨w.heap.size, 0, none⟩) 0 0) [] := ⟨fun _ _ => trivial, OwnRow.lit w w.heap.size (Reps.none _ _) (Nat.le_refl _) (by simp)⟩
    have HO := Ow.mk HO
    have HC := Lib.hid (Kd.C_below HR.out (below_alloc (Below.refl w.heap.size w) (.cells #[] 9)))
    have HB := Lib.hid (below_alloc (Below.refl w.heap.size w) (.cells #[] 9))
    go_wp2_with (at_builtin; go_must (refine Kd.R_append_row Value.string ByteArray.empty w.heap.size rfl (.tmp 5) (.tmp 6) 23 9 (.string ⟨#[]⟩) 16 rfl Tryz.underlying23 info_string rfl (by omega) (.slice (some ⟨w.heap.size, 0, none⟩) 0 0) [] l (some ad) l.length c (fun _ => True) rfl rfl (fun _ _ => trivial) HO.out HC.out HB.out (by simp) (by simp; omega) ?_); intro v1 w1 hR hb _ _; have HO1 := Ow.mk hR; have HB1 := Lib.hid hb; clear hR hb)
    go_ret
    exact ⟨_, rfl, HO1, HB1.out⟩

end Go.Proofs.YthjcnifdlfjieaaGreatDoor.Hc
