import Derived.Test.YthjcnifdlfjieaaGreatDoorHr
set_option linter.unusedVariables false
set_option linter.unusedSimpArgs false
namespace Go.Proofs.YthjcnifdlfjieaaGreatDoor.If
open Go.RowKit Go.Shelf Go.Proofs.YthjcnifdlfjieaaGreatDoorW.PrintWords Go.Proofs.YthjcnifdlfjieaaGreatDoor.Ha Go.Proofs.YthjcnifdlfjieaaGreatDoor.Hb Go.Proofs.YthjcnifdlfjieaaGreatDoor.Hc Go.Proofs.YthjcnifdlfjieaaGreatDoor.Hp Go.Proofs.YthjcnifdlfjieaaGreatDoor.Hd Go.Proofs.YthjcnifdlfjieaaGreatDoor.He Go.Proofs.YthjcnifdlfjieaaGreatDoor.Hf Go.Proofs.YthjcnifdlfjieaaGreatDoor.Hg Go.Proofs.YthjcnifdlfjieaaGreatDoor.Hh Go.Proofs.YthjcnifdlfjieaaGreatDoor.Hi Go.Proofs.YthjcnifdlfjieaaGreatDoor.Hm Go.Proofs.YthjcnifdlfjieaaGreatDoor.Hj Go.Proofs.YthjcnifdlfjieaaGreatDoor.Hk Go.Proofs.YthjcnifdlfjieaaGreatDoor.Hl Go.Proofs.YthjcnifdlfjieaaGreatDoor.Hn Go.Proofs.YthjcnifdlfjieaaGreatDoor.Ho Go.Proofs.YthjcnifdlfjieaaGreatDoor.Hq Go.Proofs.YthjcnifdlfjieaaGreatDoor.Hr

theorem oneF_all : (List.range 301).all (fun n => decide (oneF (ofF (n : Int)) = some (n : Int))) = true := by kernel_rfl
theorem mayB_all : (List.range 301).all (fun n => mayB (ofF (n : Int))) = true := by kernel_rfl
theorem oneF_of (n : Int) (h0 : 0 ≤ n) (h1 : n ≤ 300) : oneF (ofF n) = some n := by
  obtain ⟨m, rfl⟩ := Int.eq_ofNat_of_zero_le h0
  have := List.all_eq_true.1 oneF_all m (List.mem_range.2 (by omega))
  exact of_decide_eq_true this
theorem mayB_of (n : Int) (h0 : 0 ≤ n) (h1 : n ≤ 300) : mayB (ofF n) = true := by
  obtain ⟨m, rfl⟩ := Int.eq_ofNat_of_zero_le h0
  exact List.all_eq_true.1 mayB_all m (List.mem_range.2 (by omega))
theorem allF_of (l : List Int) (h : ∀ n ∈ l, 0 ≤ n ∧ n ≤ 300) : allF (l.map ofF) = some l := by
  induction l with
  | nil => rfl
  | cons n l ih =>
    simp only [List.map_cons, allF]
    rw [oneF_of n (h n (by simp)).1 (h n (by simp)).2, ih (fun m hm => h m (by simp [hm]))]
    rfl

theorem idxOf_spec {α : Type} (p : α → Bool) (l : List α) : ∀ k : Nat, idxOf p l k = -1 ∧ (∀ x ∈ l, p x = false) ∨ ∃ j : Nat, ∃ h : j < l.length, idxOf p l k = (k + j : Nat) ∧ p l[j] = true ∧ ∀ i (hi : i < l.length), i < j → p l[i] = false := by
  induction l with
  | nil => intro k; exact .inl ⟨rfl, by simp⟩
  | cons x l ih =>
    intro k
    have e : idxOf p (x :: l) k = if p x then (k : Int) else idxOf p l (k + 1) := rfl
    by_cases hx : p x = true
    · refine .inr ⟨0, by simp, by rw [e, if_pos hx]; simp, by simpa using hx, fun i _ h => absurd h (by omega)⟩
    · have hx : p x = false := by simpa using hx
      rcases ih (k + 1) with ⟨h1, h2⟩ | ⟨j, hj, h1, h2, h3⟩
      · refine .inl ⟨by rw [e, hx]; simpa using h1, ?_⟩
        intro y hy
        rcases List.mem_cons.1 hy with rfl | hy
        · exact hx
        · exact h2 y hy
      · refine .inr ⟨j + 1, by simpa using hj, by rw [e, hx]; simp only [Bool.false_eq_true, if_false]; rw [h1]; congr 1; omega, by simpa using h2, ?_⟩
        intro i hi hij
        cases i with
        | zero => simpa using hx
        | succ i => simpa using h3 i (by simpa using hi) (by omega)
/-- Where an element is first. -/
theorem place_spec (l : List ByteArray) (s : ByteArray) : (place l s = l.length ∧ ∀ x ∈ l, x ≠ s) ∨ ∃ j : Nat, ∃ h : j < l.length, place l s = j ∧ l[j] = s ∧ ∀ i (hi : i < l.length), i < j → l[i] ≠ s := by
  have hd : fst l 0 s = idxOf (fun x => tt (x = s)) l 0 := rfl
  rcases idxOf_spec (fun x => tt (x = s)) l 0 with ⟨h1, h2⟩ | ⟨j, hj, h1, h2, h3⟩
  · left
    refine ⟨by unfold place; rw [hd, h1, if_pos (by omega)], ?_⟩
    intro x hx he
    have := h2 x hx
    rw [tt_yes he] at this
    cases this
  · right
    refine ⟨j, hj, by unfold place; rw [hd, h1, if_neg (by omega)]; simp, tt_iff.1 h2, ?_⟩
    intro i hi hij he
    have := h3 i hi hij
    rw [tt_yes he] at this
    cases this
theorem place_in (l : List ByteArray) (s : ByteArray) (h : s ∈ l) : ∃ j : Nat, ∃ h : j < l.length, place l s = j ∧ l[j] = s := by
  rcases place_spec l s with ⟨_, h2⟩ | ⟨j, hj, h1, h2, _⟩
  · exact absurd rfl (h2 s h)
  · exact ⟨j, hj, h1, h2⟩

theorem uniq_mem (l : List ByteArray) (s : ByteArray) : ∀ r, s ∈ l.foldl uq r ↔ s ∈ r ∨ s ∈ l := by
  induction l with
  | nil => intro r; simp
  | cons x l ih =>
    intro r
    rw [List.foldl_cons, ih, mem_uq, List.mem_cons]
    constructor
    · rintro ((h | h) | h)
      · exact .inr (.inl h)
      · exact .inl h
      · exact .inr (.inr h)
    · rintro (h | h | h)
      · exact .inl (.inr h)
      · exact .inl (.inl h)
      · exact .inr h
theorem uniqF_mem (l : List ByteArray) (s : ByteArray) : s ∈ uniqF l ↔ s ∈ l := by
  unfold uniqF; rw [uniq_mem]; simp
theorem uniqF_len (l : List ByteArray) : (uniqF l).length ≤ l.length := by
  have := uniq_len l []
  simpa [uniqF] using this

theorem mayV_parts {x : V} (h : mayV x = true) : (sizeF x.sh).2 = 0 ∧ (x.el.length : Int) = (sizeF x.sh).1 ∧ ∀ s ∈ x.el, mayB s = true := by
  unfold mayV at h
  simp only [Bool.and_eq_true, decide_eq_true_eq, Bool.not_eq_true'] at h
  refine ⟨h.1.1, h.1.2, fun s hs => ?_⟩
  have := List.any_eq_false.1 h.2 s hs
  simpa using this
theorem mayV_of {x : V} (h1 : (sizeF x.sh).2 = 0) (h2 : (x.el.length : Int) = (sizeF x.sh).1) (h3 : ∀ s ∈ x.el, mayB s = true) : mayV x = true := by
  unfold mayV
  simp only [Bool.and_eq_true, decide_eq_true_eq, Bool.not_eq_true']
  refine ⟨⟨h1, h2⟩, List.any_eq_false.2 fun s hs => ?_⟩
  simp [h3 s hs]
theorem sizeF_one (n : Nat) (h : n ≤ 4096) : sizeF [(n : Int)] = ((n : Int), 0) := by
  unfold sizeF
  rw [if_neg (by simp), if_neg (by simp), if_neg (by simp; omega)]
  by_cases h0 : n = 0
  · subst h0; simp
  · rw [if_neg (by simp; omega)]
    simp only [prodF]
    rw [if_neg (by omega)]
    simp
theorem fineF_ok {x : V} {l : List V} (h : mayV x = true) (h2 : ∀ y ∈ l, mayV y = true) (h3 : x.sh.length = 1) : fineF x l = 0 := by
  unfold fineF
  rw [if_neg, if_pos h3]
  rintro (h4 | h4)
  · rw [h] at h4; cases h4
  · rw [List.any_eq_true] at h4
    obtain ⟨y, hy, hy2⟩ := h4
    rw [h2 y hy] at hy2
    cases hy2
theorem sh_one {x : V} (h : mayV x = true) (h3 : x.sh.length = 1) (hl : x.el.length ≤ 300) : x.sh = [(x.el.length : Int)] := by
  obtain ⟨h1, h2, _⟩ := mayV_parts h
  obtain ⟨n, hn⟩ : ∃ n, x.sh = [n] := by
    match hsh : x.sh, h3 with
    | [n], _ => exact ⟨n, rfl⟩
  rw [hn] at h1 h2 ⊢
  have h4 : sizeF [n] = (n, 0) ∨ (sizeF [n]).2 ≠ 0 := by
    unfold sizeF
    rw [if_neg (by simp)]
    by_cases h5 : n < 0
    · right; rw [if_pos (by simpa using h5)]; simp
    · rw [if_neg (by simpa using h5)]
      by_cases h6 : 1099511627776 < n
      · right; rw [if_pos (by simpa using h6)]; simp
      · rw [if_neg (by simpa using h6)]
        by_cases h7 : n = 0
        · left; subst h7; simp
        · rw [if_neg (by simp; omega)]
          simp only [prodF]
          by_cases h8 : 4096 / 1 < n
          · right; rw [if_pos h8]; simp
          · left; rw [if_neg h8]; simp
  rcases h4 with h4 | h4
  · rw [h4] at h2; rw [h2]
  · exact absurd h1 h4
end Go.Proofs.YthjcnifdlfjieaaGreatDoor.If
