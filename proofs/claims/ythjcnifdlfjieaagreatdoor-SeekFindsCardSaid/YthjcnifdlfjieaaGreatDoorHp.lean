import Derived.Shelf.GgClosure.StringsIndexFunc
import Derived.Lib.ParseIntB
import Derived.Lib.ItoaNum
import Derived.Laws.RangeAny
set_option linter.unusedVariables false
set_option linter.unusedSimpArgs false
namespace Go.Proofs.YthjcnifdlfjieaaGreatDoor.Hp
open Go

def dg (c : UInt8) : Bool := decide (48 ≤ c.toNat) && decide (c.toNat ≤ 57)
/-- Not a figure: the closure of May. -/
def nodig (r : Nat) : Bool := decide (r < 48) || decide (57 < r)
theorem nodig_of (c : UInt8) : nodig c.toNat = !dg c := by
  unfold nodig dg
  rw [Bool.eq_iff_iff]
  simp only [Bool.or_eq_true, decide_eq_true_eq, Bool.not_eq_true', Bool.and_eq_false_iff, decide_eq_false_iff_not]
  try omega

theorem idx_digits (s : ByteArray) : ∀ (f pos : Nat), s.size - pos ≤ f → (0 ≤ Lib.idxFuncFrom nodig true s f pos ↔ ∃ j, ∃ h : j < s.size, pos ≤ j ∧ dg s[j] = false)
  | 0, pos, hf => by
    constructor
    · intro h; simp [Lib.idxFuncFrom] at h
    · rintro ⟨j, h, hj, _⟩; omega
  | f + 1, pos, hf => by
    by_cases hp : pos < s.size
    · have step : Lib.idxFuncFrom nodig true s (f + 1) pos = if nodig (Utf8.decode s pos).1 = true then (pos : Int) else Lib.idxFuncFrom nodig true s f (pos + (Utf8.decode s pos).2) := by
        simp [Lib.idxFuncFrom, hp]
      rw [step]
      by_cases ha : (s[pos]'hp).toNat < 128
      · have hd := decode_ascii s pos hp ha
        rw [hd]
        have hn := nodig_of (s[pos]'hp)
        by_cases hg : dg (s[pos]'hp) = true
        · simp only [hn, hg, Bool.not_true, Bool.false_eq_true, if_false]
          rw [idx_digits s f (pos + 1) (by omega)]
          constructor
          · rintro ⟨j, h, hj, hq⟩; exact ⟨j, h, by omega, hq⟩
          · rintro ⟨j, h, hj, hq⟩
            refine ⟨j, h, ?_, hq⟩
            rcases Nat.lt_or_ge pos j with h1 | h1
            · omega
            · have : j = pos := by omega
              subst this
              rw [hg] at hq; cases hq
        · have hg : dg (s[pos]'hp) = false := by simpa using hg
          simp only [hn, hg, Bool.not_false, if_true]
          exact ⟨fun _ => ⟨pos, hp, Nat.le_refl _, hg⟩, fun _ => by omega⟩
      · have hh := (decode_high s pos hp (by omega)).1
        have hn : nodig (Utf8.decode s pos).1 = true := by unfold nodig; simp; omega
        rw [if_pos hn]
        refine ⟨fun _ => ⟨pos, hp, Nat.le_refl _, ?_⟩, fun _ => by omega⟩
        unfold dg; simp; omega
    · rw [Lib.idxFuncFrom_end nodig true s (f + 1) pos hp]
      constructor
      · intro h; omega
      · rintro ⟨j, h, hj, _⟩; omega

/-- All bytes are figures. -/
def digits (s : ByteArray) : Bool := s.data.toList.all dg
theorem contains_digits (s : ByteArray) : decide (0 ≤ Lib.idxFunc nodig true s) = !digits s := by
  rw [Bool.eq_iff_iff, decide_eq_true_iff]
  have h := idx_digits s s.size 0 (by omega)
  show 0 ≤ Lib.idxFuncFrom nodig true s s.size 0 ↔ _
  rw [h]
  simp only [digits, Bool.not_eq_true', List.all_eq_false]
  constructor
  · rintro ⟨j, hj, _, hd⟩
    have e : s[j] = s.data.toList[j]'(by simpa using hj) := by simp [ByteArray.getElem_eq_getElem_data]
    refine ⟨s[j], ?_, by simp [hd]⟩
    rw [e]; exact List.getElem_mem _
  · rintro ⟨c, hc, hd⟩
    obtain ⟨j, hj, rfl⟩ := List.getElem_of_mem hc
    exact ⟨j, by simpa using hj, Nat.zero_le _, by simpa [ByteArray.getElem_eq_getElem_data] using hd⟩
end Go.Proofs.YthjcnifdlfjieaaGreatDoor.Hp
