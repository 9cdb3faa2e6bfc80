import Derived.Test.YthjcnifdlfjieaaGreatDoorIc
set_option linter.unusedVariables false
set_option linter.unusedSimpArgs false
namespace Go.Proofs.YthjcnifdlfjieaaGreatDoor.Id
open Go.RowKit Go.Shelf Go.Proofs.YthjcnifdlfjieaaGreatDoorW.PrintWords Go.Proofs.YthjcnifdlfjieaaGreatDoor.Ha Go.Proofs.YthjcnifdlfjieaaGreatDoor.Hb Go.Proofs.YthjcnifdlfjieaaGreatDoor.Hc Go.Proofs.YthjcnifdlfjieaaGreatDoor.Hp Go.Proofs.YthjcnifdlfjieaaGreatDoor.Hd Go.Proofs.YthjcnifdlfjieaaGreatDoor.He Go.Proofs.YthjcnifdlfjieaaGreatDoor.Hf Go.Proofs.YthjcnifdlfjieaaGreatDoor.Hg Go.Proofs.YthjcnifdlfjieaaGreatDoor.Hh Go.Proofs.YthjcnifdlfjieaaGreatDoor.Hi Go.Proofs.YthjcnifdlfjieaaGreatDoor.Hm Go.Proofs.YthjcnifdlfjieaaGreatDoor.Hj Go.Proofs.YthjcnifdlfjieaaGreatDoor.Hk Go.Proofs.YthjcnifdlfjieaaGreatDoor.Hl Go.Proofs.YthjcnifdlfjieaaGreatDoor.Hn Go.Proofs.YthjcnifdlfjieaaGreatDoor.Ho Go.Proofs.YthjcnifdlfjieaaGreatDoor.Hq Go.Proofs.YthjcnifdlfjieaaGreatDoor.Hr Go.Proofs.YthjcnifdlfjieaaGreatDoor.Hs Go.Proofs.YthjcnifdlfjieaaGreatDoor.Ht Go.Proofs.YthjcnifdlfjieaaGreatDoor.Hu Go.Proofs.YthjcnifdlfjieaaGreatDoor.Hv Go.Proofs.YthjcnifdlfjieaaGreatDoor.Hw Go.Proofs.YthjcnifdlfjieaaGreatDoor.Hx Go.Proofs.YthjcnifdlfjieaaGreatDoor.Hy Go.Proofs.YthjcnifdlfjieaaGreatDoor.Ia Go.Proofs.YthjcnifdlfjieaaGreatDoor.Ib Go.Proofs.YthjcnifdlfjieaaGreatDoor.Ic

theorem of30 : ofF 30 = ⟨#[51, 48]⟩ := by kernel_rfl
theorem of10 : ofF 10 = ⟨#[49, 48]⟩ := by kernel_rfl
theorem of20 : ofF 20 = ⟨#[50, 48]⟩ := by kernel_rfl
theorem may30 : mayB (⟨#[51, 48]⟩ : ByteArray) = true := by kernel_rfl
theorem sm30 : Small (⟨#[51, 48]⟩ : ByteArray) 30 where
  size := by decide
  bare := by kernel_rfl
  parse := ⟨30, by kernel_rfl, rfl⟩
  pos := by decide
  first := fun h => rfl
  all := by kernel_rfl
  none := by kernel_rfl
theorem may10 : mayB (⟨#[49, 48]⟩ : ByteArray) = true := by kernel_rfl
theorem sm10 : Small (⟨#[49, 48]⟩ : ByteArray) 10 where
  size := by decide
  bare := by kernel_rfl
  parse := ⟨10, by kernel_rfl, rfl⟩
  pos := by decide
  first := fun h => rfl
  all := by kernel_rfl
  none := by kernel_rfl
theorem may20 : mayB (⟨#[50, 48]⟩ : ByteArray) = true := by kernel_rfl
theorem sm20 : Small (⟨#[50, 48]⟩ : ByteArray) 20 where
  size := by decide
  bare := by kernel_rfl
  parse := ⟨20, by kernel_rfl, rfl⟩
  pos := by decide
  first := fun h => rfl
  all := by kernel_rfl
  none := by kernel_rfl
theorem keys : Keys := ⟨fun k h => by
  rcases (show k = 0 ∨ k = 1 ∨ k = 2 by have : k < 3 := h; omega) with rfl | rfl | rfl
  · exact ⟨show Small (ofF 30) 30 from of30 ▸ sm30, show mayB (ofF 30) = true from of30 ▸ may30⟩
  · exact ⟨show Small (ofF 10) 10 from of10 ▸ sm10, show mayB (ofF 10) = true from of10 ▸ may10⟩
  · exact ⟨show Small (ofF 20) 20 from of20 ▸ sm20, show mayB (ofF 20) = true from of20 ▸ may20⟩⟩
theorem fine3 : fineF x3 [] = 0 := by kernel_rfl
def y3 : V := ⟨[3], [0, 2, 1].map ofF⟩
theorem fineY : fineF y3 [] = 0 := by kernel_rfl
theorem allY : allF y3.el = some [0, 2, 1] := by kernel_rfl
theorem wfY : wf [0, 2, 1] 0 = [1, 1, 2] := by kernel_rfl
end Go.Proofs.YthjcnifdlfjieaaGreatDoor.Id
