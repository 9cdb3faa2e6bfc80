import Derived.Maps.OwnIn
import Derived.Maps.OwnSet
import Derived.Maps.StringElems
import Derived.Maps.Views
import Derived.RangeFuncNested
import Derived.RangeFuncBound
import Derived.RangeFuncCalls
import Derived.RangeFuncLeaves
import Derived.Below
import Derived.WalkSmall
set_option linter.unusedVariables false
set_option linter.unusedSimpArgs false
namespace Go.Proofs.YthjcnifdlfjieaaGreatDoor.Hm
open Go Go.RowKit Go.Maps

/-- A map's element as it is. -/
def raw (v : Value) : Option (DataW Value × List MemPlace) := some (.held v, [])
/-- Block b is a map keyed by strings, with at most N entries. -/
def SMap (P : Program) (k : TypeId) (w : World) (b N : Nat) (f : ByteArray → Option Value) : Prop :=
  ∃ n D, n ≤ N ∧ w.ownsMap P k raw b n D ∧ IsMap D ∧ ∀ s : ByteArray, has D (.string s.data.toList) = (f s).isSome ∧ ∀ z, D.atKey (.string s.data.toList) (.held z) = .held ((f s).getD z)
section
variable {P : Program} {k : TypeId} {w w' : World} {b N : Nat} {f : ByteArray → Option Value}
theorem SMap.made (w : World) (P : Program) (k : TypeId) : SMap P k (w.alloc (.map #[] 0)) w.heap.size 0 (fun _ => none) :=
  ⟨0, .map [], Nat.le_refl _, World.ownsMap_made w P k raw, isMap_empty, fun s => ⟨rfl, fun z => rfl⟩⟩
theorem SMap.lt (h : SMap P k w b N f) : b < w.heap.size := by obtain ⟨n, D, _, ho, _⟩ := h; exact ho.lt
theorem SMap.kept {row : Option Nat} (h : SMap P k w b N f) (hg : w.grownBy w' row) (hne : some b ≠ row) : SMap P k w' b N f := by
  obtain ⟨n, D, hn, ho, hd, hf⟩ := h
  exact ⟨n, D, hn, ho.kept hg hne, hd, hf⟩
theorem SMap.below (h : SMap P k w b N f) (hb : Below w.heap.size w w') : SMap P k w' b N f :=
  h.kept (row := none) ⟨hb.os, hb.tape, hb.output, hb.size, fun i hi _ => hb.block i hi⟩ (by simp)
theorem SMap.setCell (h : SMap P k w b N f) {a : Addr} (ha : b ≠ a.block) (u : Value) : SMap P k (w.setCell a u) b N f := by
  obtain ⟨n, D, hn, ho, hd, hf⟩ := h
  exact ⟨n, D, hn, ho.setCell ha u, hd, hf⟩
theorem SMap.mono {N' : Nat} (h : SMap P k w b N f) (hN : N ≤ N') : SMap P k w b N' f := by
  obtain ⟨n, D, hn, ho, hd, hf⟩ := h
  exact ⟨n, D, Nat.le_trans hn hN, ho, hd, hf⟩
theorem SMap.block (h : SMap P k w b N f) : ∃ es c, w.heap[b]? = some (.map es c) := by
  obtain ⟨n, D, hn, ⟨es, c, hb, _⟩, _⟩ := h
  exact ⟨es, c, hb⟩
def upd (f : ByteArray → Option Value) (s : ByteArray) (v : Value) : ByteArray → Option Value := fun t => if t = s then some v else f t
theorem ba_inj {a b : ByteArray} (h : a.data.toList = b.data.toList) : a = b := ByteArray.ext (Array.toList_inj.1 h)
theorem SMap.put {n : Nat} {D : DataW Value} {s : ByteArray} {v : Value} (hn : n + 1 ≤ N) (ho : w'.ownsMap P k raw b (n + 1) (D.put (.string s.data.toList) (.held v))) (hd : IsMap D)
    (hf : ∀ s : ByteArray, has D (.string s.data.toList) = (f s).isSome ∧ ∀ z, D.atKey (.string s.data.toList) (.held z) = .held ((f s).getD z)) : SMap P k w' b N (upd f s v) := by
  refine ⟨n + 1, _, hn, ho, hd.put _ _, fun t => ?_⟩
  have ikl : WideAt.IsKeyLit (.string t.data.toList) := trivial
  by_cases ht : t = s
  · subst ht
    refine ⟨by rw [has_put_same hd ikl]; simp [upd], fun z => by rw [atKey_put_same hd ikl]; simp [upd]⟩
  · have hne : (Lit.string t.data.toList) ≠ .string s.data.toList := fun h => ht (ba_inj (by injection h))
    exact ⟨by rw [has_put_other hne, (hf t).1]; simp [upd, ht], fun z => by rw [atKey_put_other hne, (hf t).2]; simp [upd, ht]⟩
end
section
variable {P : Program} {w : World} {ops : Array Oper} {rest : List Oper} {o : Oper} {a : Act} {Q : Exit → Act → World → Prop}
theorem wpList_look (hg : o.guard = none) (m x : Operand) (t : TypeId) (hop : o.op = Op.lookup t m x false) (k e : TypeId) (hk : P.underlying k = some .string) (ht : P.underlying t = some (.map k e)) {z : Value} (hz : (zeroValue e).run P w = .ok z w)
    (b N : Nat) (f : ByteArray → Option Value) (hm : a.eval m = .map (some b)) (hS : SMap P k w b N f) (s : ByteArray) (hsz : s.size ≤ maxLen) (hx : a.eval x = .string s)
    (hK : wpList P ops Q rest (a.put o.dst ((f s).getD z)) w) : wpList P ops Q (o :: rest) a w := by
  obtain ⟨n, D, hn, ho, hd, hf⟩ := hS
  refine wpList_plain hg fun K' hK' => ?_
  obtain ⟨v, ps, hrun, hv⟩ := ho.lookup (string_keyed hk) ht hz (zd := .held z) (zp := []) rfl (key := .string s) (Go.WideMaps.keyOf_string_mk hk hsz)
  unfold Oper.wp
  simp [execOp, hop, hm, hx, hrun, Result.andThen]
  rw [(hf s).2 z] at hv
  have e : v = (f s).getD z := by simp [raw] at hv; exact hv.1
  rw [e]
  exact hK' _ _ hK
theorem wpList_look_ok (hg : o.guard = none) (m x : Operand) (t : TypeId) (hop : o.op = Op.lookup t m x true) (k e : TypeId) (hk : P.underlying k = some .string) (ht : P.underlying t = some (.map k e)) {z : Value} (hz : (zeroValue e).run P w = .ok z w)
    (b N : Nat) (f : ByteArray → Option Value) (hm : a.eval m = .map (some b)) (hS : SMap P k w b N f) (s : ByteArray) (hsz : s.size ≤ maxLen) (hx : a.eval x = .string s)
    (hK : wpList P ops Q rest (a.put o.dst (.tuple #[(f s).getD z, .bool (f s).isSome])) w) : wpList P ops Q (o :: rest) a w := by
  obtain ⟨n, D, hn, ho, hd, hf⟩ := hS
  refine wpList_plain hg fun K' hK' => ?_
  obtain ⟨v, ps, hrun, hv⟩ := ho.look_ok (string_keyed hk) ht hz (zd := .held z) (zp := []) rfl (key := .string s) (Go.WideMaps.keyOf_string_mk hk hsz)
  unfold Oper.wp
  simp [execOp, hop, hm, hx, hrun, Result.andThen]
  rw [(hf s).2 z] at hv
  have e : v = (f s).getD z := by simp [raw] at hv; exact hv.1
  rw [e, (hf s).1]
  exact hK' _ _ hK
theorem wpList_upd (hg : o.guard = none) (m x v : Operand) (t : TypeId) (hop : o.op = Op.mapUpdate t m x v) (k e : TypeId) (hk : P.underlying k = some .string) (ht : P.underlying t = some (.map k e))
    (b N : Nat) (f : ByteArray → Option Value) (hm : a.eval m = .map (some b)) (hS : SMap P k w b N f) (hN : N < 9223372036854775807) (s : ByteArray) (hsz : s.size ≤ maxLen) (u : Value) (hx : a.eval x = .string s) (hv : a.eval v = u)
    (hK : ∀ w', SMap P k w' b (N + 1) (upd f s u) → w.grownBy w' (some b) → wpList P ops Q rest (a.put o.dst undef) w') : wpList P ops Q (o :: rest) a w := by
  obtain ⟨n, D, hn, ho, hd, hf⟩ := hS
  refine wpList_mapUpdate_own w hg m x v t hop k e (string_keyed hk) ht raw b n D hm ho (by unfold maxLen; omega) (.string s) u (.string s.data.toList) hx hv (Go.WideMaps.keyOf_string_mk hk hsz) (.held u) [] rfl ?_
  intro w' ho' hg'
  exact hK w' (SMap.put (by omega) ho' hd hf) hg'
theorem wpListIn_upd {F : Fence} {nF : Nat} (hg : o.guard = none) (m x v : Operand) (t : TypeId) (hop : o.op = Op.mapUpdate t m x v) (k e : TypeId) (hk : P.underlying k = some .string) (ht : P.underlying t = some (.map k e))
    (b N : Nat) (f : ByteArray → Option Value) (hm : a.eval m = .map (some b)) (hS : SMap P k w b N f) (hN : N < 9223372036854775807) (s : ByteArray) (hsz : s.size ≤ maxLen) (u : Value) (hx : a.eval x = .string s) (hv : a.eval v = u)
    (hK : ∀ w', SMap P k w' b (N + 1) (upd f s u) → w.grownBy w' (some b) → wpListIn F nF P ops Q rest (a.put o.dst undef) w') : wpListIn F nF P ops Q (o :: rest) a w := by
  obtain ⟨n, D, hn, ho, hd, hf⟩ := hS
  refine wpListIn_mapUpdate_own w hg m x v t hop k e (string_keyed hk) ht raw b n D hm ho (by unfold maxLen; omega) (.string s) u (.string s.data.toList) hx hv (Go.WideMaps.keyOf_string_mk hk hsz) (.held u) [] rfl ?_
  intro w' ho' hg'
  exact hK w' (SMap.put (by omega) ho' hd hf) hg'
end
end Go.Proofs.YthjcnifdlfjieaaGreatDoor.Hm
