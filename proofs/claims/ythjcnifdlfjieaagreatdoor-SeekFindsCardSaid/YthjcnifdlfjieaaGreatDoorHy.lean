import Derived.Test.YthjcnifdlfjieaaGreatDoorHx
import Derived.StillTailTactics
set_option linter.unusedVariables false
set_option linter.unusedSimpArgs false
namespace Go.Proofs.YthjcnifdlfjieaaGreatDoor.Hy
open Go.RowKit Go.Shelf Go.Proofs.YthjcnifdlfjieaaGreatDoorW.PrintWords Go.Proofs.YthjcnifdlfjieaaGreatDoor.Ha Go.Proofs.YthjcnifdlfjieaaGreatDoor.Hb Go.Proofs.YthjcnifdlfjieaaGreatDoor.Hc Go.Proofs.YthjcnifdlfjieaaGreatDoor.Hp Go.Proofs.YthjcnifdlfjieaaGreatDoor.Hd Go.Proofs.YthjcnifdlfjieaaGreatDoor.He Go.Proofs.YthjcnifdlfjieaaGreatDoor.Hf Go.Proofs.YthjcnifdlfjieaaGreatDoor.Hg Go.Proofs.YthjcnifdlfjieaaGreatDoor.Hh Go.Proofs.YthjcnifdlfjieaaGreatDoor.Hi Go.Proofs.YthjcnifdlfjieaaGreatDoor.Hm Go.Proofs.YthjcnifdlfjieaaGreatDoor.Hj Go.Proofs.YthjcnifdlfjieaaGreatDoor.Hk Go.Proofs.YthjcnifdlfjieaaGreatDoor.Hl Go.Proofs.YthjcnifdlfjieaaGreatDoor.Hn Go.Proofs.YthjcnifdlfjieaaGreatDoor.Ho Go.Proofs.YthjcnifdlfjieaaGreatDoor.Hq Go.Proofs.YthjcnifdlfjieaaGreatDoor.Hs Go.Proofs.YthjcnifdlfjieaaGreatDoor.Ht Go.Proofs.YthjcnifdlfjieaaGreatDoor.Hu Go.Proofs.YthjcnifdlfjieaaGreatDoor.Hv Go.Proofs.YthjcnifdlfjieaaGreatDoor.Hw Go.Proofs.YthjcnifdlfjieaaGreatDoor.Hx

def kf (i : Int) : Int := if i = 0 then 30 else if i = 1 then 10 else 20
def cf (i k : Int) : Int := cmpI (kf i) (kf k)
def pushL : Nat → List Int | 0 => [] | 1 => [0] | 2 => [1, 0] | _ => [1, 0, 2]
def popL : Nat → List Int | 0 => [1, 0, 2] | 1 => [2, 0] | 2 => [0] | _ => []
def popX : Nat → Int | 0 => 1 | 1 => 2 | _ => 0

theorem pushes (g : Nat) (F : FuncId) (lb : Array Value) (W0 : World) (hcf : CF g F lb cf W0) (eg : ∀ args w, (callFunc F args).run Tryz.prog w = .ok (.enter F args) w)
    (k : Nat) (hk : k < 3) (W : World) (h : QS g (.func (.func F) #[] lb) (pushL k) W) (hW : Below g W0 W) :
    Calls Tryz.prog 70 #[hq g, .iface 3 (.int .i64 (k : Int))] W fun e w' => (∃ v, e = .returned v) ∧ QS g (.func (.func F) #[] lb) (pushL (k + 1)) w' ∧ Below g W w' := by
  rcases (show k = 0 ∨ k = 1 ∨ k = 2 by omega) with rfl | rfl | rfl
  · exact hPush g _ [] 0 [0] W h (by decide) (fun W1 h1 _ => (up_stay g W1).mono fun e w' ⟨he, hw⟩ => ⟨he, hw ▸ h1, hw ▸ Below.refl _ _⟩)
  · exact hPush g _ [0] 1 [1, 0] W h (by decide) (fun W1 h1 hb => up_yes g F lb cf W0 hcf eg [0, 1] 1 1 0 (-1) W1 h1 (hW.trans hb) (by decide) (by decide) (by decide) rfl rfl (by decide) (by decide) (by decide) rfl (by decide))
  · exact hPush g _ [1, 0] 2 [1, 0, 2] W h (by decide) (fun W1 h1 hb => up_no g F lb cf W0 hcf eg [1, 0, 2] 2 2 1 1 W1 h1 (hW.trans hb) (by decide) (by decide) (by decide) rfl rfl (by decide) (by decide) (by decide) rfl (by decide))

theorem pops (g d : Nat) (A : Option Addr) (F : FuncId) (lb : Array Value) (W0 : World) (hcf : CF g F lb cf W0) (eg : ∀ args w, (callFunc F args).run Tryz.prog w = .ok (.enter F args) w)
    (k : Nat) (hk : k < 3) (W : World) (h : QA g A d (.func (.func F) #[] lb) (popL k) W) (hW : Below g W0 W) :
    Calls Tryz.prog 72 #[hq g] W fun e w' => e = .returned (.iface 3 (.int .i64 (popX k))) ∧ QA g A d (.func (.func F) #[] lb) (popL (k + 1)) w' ∧ Fr g A W w' := by
  rcases (show k = 0 ∨ k = 1 ∨ k = 2 by omega) with rfl | rfl | rfl
  · exact hPop g d A _ [1, 0, 2] [2, 0, 1] 2 1 W h rfl rfl (by decide) rfl (SwapA g d A _ [1, 0, 2] 0 2 1 2 W h (by decide) (by decide) rfl rfl (by decide)) (fun W1 h1 hb => down_no g d A F lb cf W0 hcf eg [2, 0, 1] 0 2 1 W1 h1 (hW.trans hb.below) (by decide) rfl rfl (by decide) (by decide) (by decide) rfl (by decide))
  · exact hPop g d A _ [2, 0] [0, 2] 1 2 W h rfl rfl (by decide) rfl (SwapA g d A _ [2, 0] 0 1 2 0 W h (by decide) (by decide) rfl rfl (by decide)) (fun W1 h1 hb => (down_stay g 1 W1 (by decide)).mono fun e w' ⟨he, hw⟩ => ⟨he, hw ▸ h1, hw ▸ Fr.refl _ _ _⟩)
  · exact hPop g d A _ [0] [0] 0 0 W h rfl rfl (by decide) rfl (Swap0 g d A _ [0] 0 W h (by decide) rfl) (fun W1 h1 hb => (down_stay g 0 W1 (by decide)).mono fun e w' ⟨he, hw⟩ => ⟨he, hw ▸ h1, hw ▸ Fr.refl _ _ _⟩)

set_option maxRecDepth 100000 in
set_option maxHeartbeats 2000000 in
theorem ord1 (bv bc : Nat) (ad : Addr) (n d : Nat) (i k : Nat) (s t : ByteArray) (a b : Int) (W : World)
    (k0 : W.cell? ⟨bc, 0, none⟩ = some (.func (.func 46) #[] #[])) (k1 : W.cell? ⟨bv, 1, none⟩ = some (.slice (some ad) n d))
    (hi : i < n) (hk : k < n) (c1 : W.cell? (ad.add i) = some (.string s)) (c2 : W.cell? (ad.add k) = some (.string t))
    (hs : Small s a) (ht : Small t b) (hms : mayB s = true) (hmt : mayB t = true) (hne : a ≠ b) :
    Calls Tryz.prog 69 #[.int .i64 (i : Int), .int .i64 (k : Int), .pointer (some ⟨bc, 0, none⟩), .pointer (some ⟨bv, 0, none⟩)] W fun e w' => e = .returned (.int .i64 (cmpI a b)) ∧ Below W.heap.size W w' := by
  have cC := Lib.hid (fun (W : World) => Cmp1 s t a b W hs ht hms hmt hne)
  have eg : ∀ args w, (callFunc 46 args).run Tryz.prog w = .ok (.enter 46 args) w := enters_of Tryz.func46 (by kernel_rfl) rfl
  have hi0 : (0 : Int) ≤ (i : Int) := Int.natCast_nonneg _
  have hi1 : (i : Int) < (n : Int) := by omega
  have hk0 : (0 : Int) ≤ (k : Int) := Int.natCast_nonneg _
  have hk1 : (k : Int) < (n : Int) := by omega
  clear hs ht hms hmt hne
  go_enter Tryz.func69, Tryz.ntmps69
  go_wp2_with fail
  go_still_tail 11, (by kernel_rfl)
  go_wp2_with fail
  refine (cC.out _).mono ?_
  rintro e w6 ⟨rfl, hb6⟩
  have HB6 := Lib.hid ((Below.refl _ W).drew.trans (hb6.mono (Nat.le_refl _)))
  clear hb6
  go_wp2
  go_ret
  exact ⟨rfl, HB6.out⟩
end Go.Proofs.YthjcnifdlfjieaaGreatDoor.Hy
