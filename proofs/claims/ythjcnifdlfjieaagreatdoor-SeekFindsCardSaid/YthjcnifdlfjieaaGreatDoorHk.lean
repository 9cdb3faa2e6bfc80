import Derived.RangeFuncBox
import Derived.RangeFuncLeaves
import Derived.RangeFuncWrites
import Derived.OwnWalkIn
import Derived.TacticsInMore
import Derived.LoopNIn
import Derived.LoopIn
import Derived.Test.YthjcnifdlfjieaaGreatDoorHj
set_option linter.unusedVariables false
set_option linter.unusedSimpArgs false
namespace Go.Proofs.YthjcnifdlfjieaaGreatDoor.Hk
open Go.RowKit Go.Shelf Go.Proofs.YthjcnifdlfjieaaGreatDoorW.PrintWords Go.Proofs.YthjcnifdlfjieaaGreatDoor.Ha Go.Proofs.YthjcnifdlfjieaaGreatDoor.Hb Go.Proofs.YthjcnifdlfjieaaGreatDoor.Hc Go.Proofs.YthjcnifdlfjieaaGreatDoor.Hp Go.Proofs.YthjcnifdlfjieaaGreatDoor.Hd Go.Proofs.YthjcnifdlfjieaaGreatDoor.He Go.Proofs.YthjcnifdlfjieaaGreatDoor.Hf Go.Proofs.YthjcnifdlfjieaaGreatDoor.Hg Go.Proofs.YthjcnifdlfjieaaGreatDoor.Hh Go.Proofs.YthjcnifdlfjieaaGreatDoor.Hi Go.Proofs.YthjcnifdlfjieaaGreatDoor.Hm Go.Proofs.YthjcnifdlfjieaaGreatDoor.Hj
attribute [local go_sem] Oper.semAt_some

/-- The first k places from the end. -/
def down (n k : Nat) : List (Fin n) := (List.finRange n).reverse.take k
theorem down_zero (n : Nat) : down n 0 = [] := rfl
theorem down_len (n k : Nat) (h : k ≤ n) : (down n k).length = k := by simp [down, h]
theorem down_succ (n k : Nat) (h : k < n) : down n k ++ [⟨n - 1 - k, by omega⟩] = down n (k + 1) := by
  unfold down
  rw [List.take_succ_eq_append_getElem (by simpa using h)]
  simp [List.getElem_reverse]
/-- What the round keeps. -/
def KpB (B Bs : Nat) (W W' : World) : Prop := Below B W W' ∧ W'.heap[Bs]? = W.heap[Bs]?
theorem KpB_t {B Bs : Nat} {X Y Z : World} (h : KpB B Bs X Y) (k : KpB B Bs Y Z) : KpB B Bs X Z := ⟨h.1.trans k.1, k.2.trans h.2⟩
theorem wideT (f : FuncId) : Fence.wide.fn f := trivial

set_option maxRecDepth 100000 in
set_option maxHeartbeats 2000000 in
theorem back1_str (n : Nat) (hn : 1 ≤ n) (l0 Bs : Nat) (A : Option Addr) (c : Nat) (l : List ByteArray) (w0 : World) (hC : Kd.C (Kd.string) w0 A l.length l) (J Jx : List (Fin l.length) → World → Prop)
    (hY : ∀ pre (x : Fin l.length) W, J pre W → pre.length < l.length → YieldAt Fence.wide (n - 1) Tryz.prog l0 #[.int .i64 (x.1 : Int), .string l[x.1]] W fun e W' =>
      (e = .returned (.bool true) ∧ J (pre ++ [x]) W' ∧ KpB w0.heap.size Bs W W') ∨ (e = .returned (.bool false) ∧ Jx (pre ++ [x]) W'))
    (W : World) (hBs : W.heap[Bs]? = some (.cells #[.slice A l.length c] 23 (0, 0))) (hW : Below w0.heap.size w0 W) (h0 : J [] W) :
    CallsIn Fence.wide n Tryz.prog 58 #[.func (.yield l0) #[] #[], .pointer (some ⟨Bs, 0, none⟩)] W fun e W' => (∃ v, e = .returned v) ∧ ((∃ ys, ys = down l.length l.length ∧ J ys W') ∨ (∃ pre, True ∧ Jx pre W')) := by
  have HL : l.length ≤ 9223372036854775807 := hC.2.1
  have HC := Lib.hid (fun (w1 : World) (h : Below w0.heap.size w0 w1) (i : Nat) (hi : i < l.length) => C_cell (Kd.C_below hC h) i hi)
  have HY := Lib.hid hY
  have HW := Lib.hid hW
  have HB := Lib.hid hBs
  have hs0 : W.cell? ⟨Bs, 0, none⟩ = some (.slice A l.length c) := blk_cell hBs 0
  clear hY hC hW hBs
  refine callsIn_of_wp Tryz.func58 rfl trivial ?_ rfl
  simp only [Tryz.ntmps58, List.size_toArray, List.length_cons, List.length_nil, Nat.reduceAdd, Nat.reduceSub, Array.replicate_succ, Array.replicate_zero, List.push_toArray, List.append_toArray, List.nil_append, List.cons_append]
  gi_wp2
  gi_loopw [3] (fun i wr => ∃ k : Nat, k ≤ l.length ∧ i = .int .i64 ((l.length : Int) - 1 - k) ∧ J (down l.length k) wr ∧ Hid (Below w0.heap.size w0 wr) ∧ Hid (wr.heap[Bs]? = some (.cells #[.slice A l.length c] 23 (0, 0)))) (fun i _ => (intOf i + 1).toNat)
  case atStart => exact ⟨0, Nat.zero_le _, by go_num, h0, HW.out, HB.out⟩
  case round =>
    clear hs0
    obtain ⟨k, hk, rfl, hJ, hb, hB⟩ := hrel
    have hs1 : wr.cell? ⟨Bs, 0, none⟩ = some (.slice A l.length c) := blk_cell hB.out 0
    by_cases hlt : k < l.length
    · obtain ⟨q, hq⟩ : ∃ q : Nat, q = l.length - 1 - k := ⟨_, rfl⟩
      have hqi : (l.length : Int) - 1 - k = q := by omega
      have hql : q < l.length := by omega
      rw [hqi]
      have HQ := Lib.hid hq
      clear hq
      obtain ⟨ad, hA, hcell⟩ := HC.out wr hb.out q hql
      subst hA
      obtain ⟨fn, tmps, assign, body, hy, hR⟩ := HY.out _ ⟨q, hql⟩ wr hJ (by rw [down_len _ _ hk]; exact hlt)
      have hds := Lib.hid (down_succ l.length k hlt)
      dsimp only at hy
      obtain ⟨s, hs⟩ : ∃ s, l[q] = s := ⟨_, rfl⟩
      rw [hs] at hcell hy
      have HR := Lib.hid hR
      clear hs hR hJ
      gi_wp2
      refine HR.out.mono ?_
      rintro e W3 (⟨rfl, hJ3, hk3⟩ | ⟨rfl, hJx3⟩)
      · have HJ3 := Lib.hid hJ3; have HK3 := Lib.hid hk3
        clear hJ3 hk3
        gi_wp2
        go_roundw
        case rel => exact ⟨k + 1, by omega, by go_num, (by rw [← hds.out]; have := HJ3.out; have e := HQ.out; subst e; exact this), hb.out.trans HK3.out.1, HK3.out.2.trans hB.out⟩
        case measure => simp [intOf]
      · have HJ3 := Lib.hid hJx3
        clear hJx3
        gi_wp2
        refine bodyPost_ret (results_none rfl _ _ _) rfl ?_
        exact ⟨⟨_, rfl⟩, .inr ⟨_, trivial, HJ3.out⟩⟩
    · obtain rfl : k = l.length := by omega
      have hqi : (l.length : Int) - 1 - (l.length : Nat) = -1 := by omega
      rw [hqi]
      gi_wp2
      go_end0
      exact ⟨⟨_, rfl⟩, .inl ⟨_, rfl, hJ⟩⟩

set_option maxHeartbeats 1000000 in
theorem back_str (n : Nat) (A : Option Addr) (m c : Nat) (w : World) :
    CallsIn Fence.wide n Tryz.prog 25 #[.slice A m c] w fun e w' => e = .returned (.func (.func 58) #[] #[.pointer (some ⟨w.heap.size, 0, none⟩)]) ∧ w' = w.alloc (.cells #[.slice A m c] 23) := by
  refine callsIn_of_wp Tryz.func25 rfl trivial ?_ rfl
  simp only [Tryz.ntmps25, List.size_toArray, List.length_cons, List.length_nil, Nat.reduceAdd, Nat.reduceSub, Array.replicate_succ, Array.replicate_zero, List.push_toArray, List.append_toArray, List.nil_append, List.cons_append]
  gi_wp2
  go_ret
  exact ⟨rfl, rfl⟩
theorem back_stops_str (n : Nat) (hn : 1 ≤ n) (Bs : Nat) (A : Option Addr) (c : Nat) (l : List ByteArray) (w0 w : World) (hC : Kd.C (Kd.string) w0 A l.length l) (hB : Below w0.heap.size w0 w) (hBs : w.heap[Bs]? = some (.cells #[.slice A l.length c] 23 (0, 0))) :
    SeqStopsK Fence.wide n Tryz.prog 58 #[.pointer (some ⟨Bs, 0, none⟩)] (fun x : Fin l.length => #[Value.int .i64 (x.1 : Int), .string l[x.1]]) (KpB w0.heap.size Bs) (fun ys => ys = down l.length l.length) (fun pre => True) l.length w :=
  fun l0 J Jx W hW _ _ hY h0 => back1_str n hn l0 Bs A c l w0 hC J Jx hY W (blk_below hBs hW) (hB.trans (hW.mono hB.size)) h0

set_option maxRecDepth 100000 in
set_option maxHeartbeats 2000000 in
theorem back1_mag (n : Nat) (hn : 1 ≤ n) (l0 Bs : Nat) (A : Option Addr) (c : Nat) (l : List Int) (w0 : World) (hC : Kd.C (Kd.int .u64) w0 A l.length l) (J Jx : List (Fin l.length) → World → Prop)
    (hY : ∀ pre (x : Fin l.length) W, J pre W → pre.length < l.length → YieldAt Fence.wide (n - 1) Tryz.prog l0 #[.int .i64 (x.1 : Int), .int .u64 l[x.1]] W fun e W' =>
      (e = .returned (.bool true) ∧ J (pre ++ [x]) W' ∧ KpB w0.heap.size Bs W W') ∨ (e = .returned (.bool false) ∧ Jx (pre ++ [x]) W'))
    (W : World) (hBs : W.heap[Bs]? = some (.cells #[.slice A l.length c] 97 (0, 0))) (hW : Below w0.heap.size w0 W) (h0 : J [] W) :
    CallsIn Fence.wide n Tryz.prog 121 #[.func (.yield l0) #[] #[], .pointer (some ⟨Bs, 0, none⟩)] W fun e W' => (∃ v, e = .returned v) ∧ ((∃ ys, ys = down l.length l.length ∧ J ys W') ∨ (∃ pre, True ∧ Jx pre W')) := by
  have HL : l.length ≤ 9223372036854775807 := hC.2.1
  have HC := Lib.hid (fun (w1 : World) (h : Below w0.heap.size w0 w1) (i : Nat) (hi : i < l.length) => C_cell (Kd.C_below hC h) i hi)
  have HY := Lib.hid hY
  have HW := Lib.hid hW
  have HB := Lib.hid hBs
  have hs0 : W.cell? ⟨Bs, 0, none⟩ = some (.slice A l.length c) := blk_cell hBs 0
  clear hY hC hW hBs
  refine callsIn_of_wp Tryz.func121 rfl trivial ?_ rfl
  simp only [Tryz.ntmps121, List.size_toArray, List.length_cons, List.length_nil, Nat.reduceAdd, Nat.reduceSub, Array.replicate_succ, Array.replicate_zero, List.push_toArray, List.append_toArray, List.nil_append, List.cons_append]
  gi_wp2
  gi_loopw [3] (fun i wr => ∃ k : Nat, k ≤ l.length ∧ i = .int .i64 ((l.length : Int) - 1 - k) ∧ J (down l.length k) wr ∧ Hid (Below w0.heap.size w0 wr) ∧ Hid (wr.heap[Bs]? = some (.cells #[.slice A l.length c] 97 (0, 0)))) (fun i _ => (intOf i + 1).toNat)
  case atStart => exact ⟨0, Nat.zero_le _, by go_num, h0, HW.out, HB.out⟩
  case round =>
    clear hs0
    obtain ⟨k, hk, rfl, hJ, hb, hB⟩ := hrel
    have hs1 : wr.cell? ⟨Bs, 0, none⟩ = some (.slice A l.length c) := blk_cell hB.out 0
    by_cases hlt : k < l.length
    · obtain ⟨q, hq⟩ : ∃ q : Nat, q = l.length - 1 - k := ⟨_, rfl⟩
      have hqi : (l.length : Int) - 1 - k = q := by omega
      have hql : q < l.length := by omega
      rw [hqi]
      have HQ := Lib.hid hq
      clear hq
      obtain ⟨ad, hA, hcell⟩ := HC.out wr hb.out q hql
      subst hA
      obtain ⟨fn, tmps, assign, body, hy, hR⟩ := HY.out _ ⟨q, hql⟩ wr hJ (by rw [down_len _ _ hk]; exact hlt)
      have hds := Lib.hid (down_succ l.length k hlt)
      dsimp only at hy
      obtain ⟨s, hs⟩ : ∃ s, l[q] = s := ⟨_, rfl⟩
      rw [hs] at hcell hy
      have HR := Lib.hid hR
      clear hs hR hJ
      gi_wp2
      refine HR.out.mono ?_
      rintro e W3 (⟨rfl, hJ3, hk3⟩ | ⟨rfl, hJx3⟩)
      · have HJ3 := Lib.hid hJ3; have HK3 := Lib.hid hk3
        clear hJ3 hk3
        gi_wp2
        go_roundw
        case rel => exact ⟨k + 1, by omega, by go_num, (by rw [← hds.out]; have := HJ3.out; have e := HQ.out; subst e; exact this), hb.out.trans HK3.out.1, HK3.out.2.trans hB.out⟩
        case measure => simp [intOf]
      · have HJ3 := Lib.hid hJx3
        clear hJx3
        gi_wp2
        refine bodyPost_ret (results_none rfl _ _ _) rfl ?_
        exact ⟨⟨_, rfl⟩, .inr ⟨_, trivial, HJ3.out⟩⟩
    · obtain rfl : k = l.length := by omega
      have hqi : (l.length : Int) - 1 - (l.length : Nat) = -1 := by omega
      rw [hqi]
      gi_wp2
      go_end0
      exact ⟨⟨_, rfl⟩, .inl ⟨_, rfl, hJ⟩⟩

set_option maxHeartbeats 1000000 in
theorem back_mag (n : Nat) (A : Option Addr) (m c : Nat) (w : World) :
    CallsIn Fence.wide n Tryz.prog 105 #[.slice A m c] w fun e w' => e = .returned (.func (.func 121) #[] #[.pointer (some ⟨w.heap.size, 0, none⟩)]) ∧ w' = w.alloc (.cells #[.slice A m c] 97) := by
  refine callsIn_of_wp Tryz.func105 rfl trivial ?_ rfl
  simp only [Tryz.ntmps105, List.size_toArray, List.length_cons, List.length_nil, Nat.reduceAdd, Nat.reduceSub, Array.replicate_succ, Array.replicate_zero, List.push_toArray, List.append_toArray, List.nil_append, List.cons_append]
  gi_wp2
  go_ret
  exact ⟨rfl, rfl⟩
theorem back_stops_mag (n : Nat) (hn : 1 ≤ n) (Bs : Nat) (A : Option Addr) (c : Nat) (l : List Int) (w0 w : World) (hC : Kd.C (Kd.int .u64) w0 A l.length l) (hB : Below w0.heap.size w0 w) (hBs : w.heap[Bs]? = some (.cells #[.slice A l.length c] 97 (0, 0))) :
    SeqStopsK Fence.wide n Tryz.prog 121 #[.pointer (some ⟨Bs, 0, none⟩)] (fun x : Fin l.length => #[Value.int .i64 (x.1 : Int), .int .u64 l[x.1]]) (KpB w0.heap.size Bs) (fun ys => ys = down l.length l.length) (fun pre => True) l.length w :=
  fun l0 J Jx W hW _ _ hY h0 => back1_mag n hn l0 Bs A c l w0 hC J Jx hY W (blk_below hBs hW) (hB.trans (hW.mono hB.size)) h0
end Go.Proofs.YthjcnifdlfjieaaGreatDoor.Hk
