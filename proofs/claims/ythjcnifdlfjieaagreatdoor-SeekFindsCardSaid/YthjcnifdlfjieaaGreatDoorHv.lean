import Derived.Test.YthjcnifdlfjieaaGreatDoorHu
import Derived.BigRegion
set_option linter.unusedVariables false
set_option linter.unusedSimpArgs false
namespace Go.Proofs.YthjcnifdlfjieaaGreatDoor.Hv
open Go.RowKit Go.Shelf Go.Proofs.YthjcnifdlfjieaaGreatDoorW.PrintWords Go.Proofs.YthjcnifdlfjieaaGreatDoor.Ha Go.Proofs.YthjcnifdlfjieaaGreatDoor.Hb Go.Proofs.YthjcnifdlfjieaaGreatDoor.Hc Go.Proofs.YthjcnifdlfjieaaGreatDoor.Hp Go.Proofs.YthjcnifdlfjieaaGreatDoor.Hd Go.Proofs.YthjcnifdlfjieaaGreatDoor.He Go.Proofs.YthjcnifdlfjieaaGreatDoor.Hf Go.Proofs.YthjcnifdlfjieaaGreatDoor.Hg Go.Proofs.YthjcnifdlfjieaaGreatDoor.Hh Go.Proofs.YthjcnifdlfjieaaGreatDoor.Hi Go.Proofs.YthjcnifdlfjieaaGreatDoor.Hm Go.Proofs.YthjcnifdlfjieaaGreatDoor.Hj Go.Proofs.YthjcnifdlfjieaaGreatDoor.Hk Go.Proofs.YthjcnifdlfjieaaGreatDoor.Hl Go.Proofs.YthjcnifdlfjieaaGreatDoor.Hn Go.Proofs.YthjcnifdlfjieaaGreatDoor.Ho Go.Proofs.YthjcnifdlfjieaaGreatDoor.Hq Go.Proofs.YthjcnifdlfjieaaGreatDoor.Hs Go.Proofs.YthjcnifdlfjieaaGreatDoor.Ht Go.Proofs.YthjcnifdlfjieaaGreatDoor.Hu

/-- A row of one's own that has an element: its block. -/
theorem own_form {g n c : Nat} {A : Option Addr} {l : List Int} {W : World} (h : Ow KI 3 g (.slice A n c) l W) (hn : 0 < l.length) : ∃ b cur, A = some ⟨b, 0, none⟩ ∧ n = l.length ∧ g ≤ b ∧ W.heap[b]? = some (.cells cur 3 (0, 0)) ∧ l.length ≤ c ∧ c ≤ maxLen ∧ cur.size = c * 1 ∧ cur.toList.take (l.length * 1) = encs (Value.int .i64) l := by
  obtain ⟨_, hr⟩ := Kd.own_of_R h.out
  rcases hr with ⟨_, h0⟩ | ⟨b, cap, cur, e, hb, hh, h1, h2, h3, h4⟩
  · omega
  · injection e with e1 e2 e3
    subst e1 e2 e3
    exact ⟨b, cur, rfl, rfl, hb, hh, h1, h2, h3, h4⟩
theorem own_setCell {g b c i : Nat} {l : List Int} {W : World} (v : Int) (h : Ow KI 3 g (.slice (some ⟨b, 0, none⟩) l.length c) l W) (hi : i < l.length) : Ow KI 3 g (.slice (some ⟨b, 0, none⟩) l.length c) (l.set i v) (W.setCell ⟨b, i, none⟩ (.int .i64 v)) := by
  obtain ⟨b', cur, e, _, hb, hh, h1, h2, h3, h4⟩ := own_form h (by omega)
  injection e with e
  injection e with e
  subst e
  refine ⟨Kd.R_of_own ?_ (fun _ _ => trivial)⟩
  rw [List.length_set]
  refine ⟨by rw [encs_length, List.length_set, Nat.mul_one], .inr ⟨b, c, cur.setIfInBounds i (.int .i64 v), rfl, hb, blk_set hh i _, h1, h2, by rw [Array.size_setIfInBounds]; exact h3, ?_⟩⟩
  rw [Array.toList_setIfInBounds, Nat.mul_one, List.take_set, ← Nat.mul_one l.length, h4]
  simp [encs, List.map_set]

set_option maxRecDepth 100000 in
set_option maxHeartbeats 4000000 in
theorem SwapA (g d : Nat) (A : Option Addr) (f : Value) (l : List Int) (i k : Nat) (x y : Int) (W : World) (h : QA g A d f l W) (hi : i < l.length) (hk : k < l.length) (hx : l[i] = x) (hy : l[k] = y) (hik : i ≠ k) :
    Calls Tryz.prog 160 #[ptr g, .int .i64 i, .int .i64 k] W fun e w' => (∃ v, e = .returned v) ∧ QA g A d f ((l.set i y).set k x) w' ∧ Fr g A W w' := by
  obtain ⟨h1, h2⟩ := h
  obtain ⟨b, cur, rfl, _, hgb, hh, -⟩ := own_form h2 (by omega)
  have k0 : W.cell? ⟨g, 0, none⟩ = some (.slice (some ⟨b, 0, none⟩) l.length d) := blk_cell h1 0
  obtain ⟨ad, e, c1⟩ := cell_at h2 i hi
  injection e with e
  subst e
  obtain ⟨ad', e, c2⟩ := cell_at h2 k hk
  injection e with e
  subst e
  rw [hx] at c1
  rw [hy] at c2
  have ei : (⟨b, 0, none⟩ : Addr).add i = ⟨b, i, none⟩ := by unfold Addr.add; split <;> simp_all
  have ek : (⟨b, 0, none⟩ : Addr).add k = ⟨b, k, none⟩ := by unfold Addr.add; split <;> simp_all
  rw [ei] at c1
  rw [ek] at c2
  have f1 := blk_frozen hh i
  have f2 := blk_frozen hh k
  have hi0 : (0 : Int) ≤ (i : Int) := Int.natCast_nonneg _
  have hi1 : (i : Int) < (l.length : Int) := by omega
  have hk0 : (0 : Int) ≤ (k : Int) := Int.natCast_nonneg _
  have hk1 : (k : Int) < (l.length : Int) := by omega
  have hn1 : (i = k) = False := eq_false hik
  have hn2 : (k = i) = False := eq_false (Ne.symm hik)
  have hgb2 : g ≠ b := by rintro rfl; rw [h1] at hh; injection hh with hh; injection hh with _ hh; exact absurd hh (by decide)
  have H1 := Lib.hid h1; have H2 := Lib.hid h2
  clear h1 h2 hx hy hh
  go_enter Tryz.func160, Tryz.ntmps160
  go_wp2_with fail
  go_region
  all_goals
    go_wp2
    go_end0
    have o1 := own_setCell y H2.out hi
    have hl1 : (l.set i y).length = l.length := List.length_set
    have hl2 : ((l.set i y).set k x).length = l.length := by rw [List.length_set, List.length_set]
    rw [← hl1] at o1
    have o2 := own_setCell x o1 (by rw [hl1]; exact hk)
    rw [hl1] at o2
    refine ⟨⟨_, rfl⟩, ⟨?_, ?_⟩, (((Fr.refl g _ W).set (p := ⟨b, i, none⟩) hgb (.inr rfl) _).set (p := ⟨b, k, none⟩) hgb (.inr rfl) _).drew⟩
    · rw [hl2]
      exact blk_drew (blk_far (blk_far H1.out (p := ⟨b, i, none⟩) hgb2 _) (p := ⟨b, k, none⟩) hgb2 _)
    · rw [hl2]
      exact ⟨Kd.R_drew o2.out⟩
theorem Swap (g : Nat) (f : Value) (l : List Int) (i k : Nat) (x y : Int) (W : World) (h : QS g f l W) (hi : i < l.length) (hk : k < l.length) (hx : l[i] = x) (hy : l[k] = y) (hik : i ≠ k) :
    Calls Tryz.prog 160 #[ptr g, .int .i64 i, .int .i64 k] W fun e w' => (∃ v, e = .returned v) ∧ QS g f ((l.set i y).set k x) w' ∧ Below g W w' := by
  obtain ⟨A, d, h⟩ := h
  exact (SwapA g d A f l i k x y W h hi hk hx hy hik).mono fun e w' ⟨he, hq, hf⟩ => ⟨he, hq.qs, hf.below⟩
end Go.Proofs.YthjcnifdlfjieaaGreatDoor.Hv
