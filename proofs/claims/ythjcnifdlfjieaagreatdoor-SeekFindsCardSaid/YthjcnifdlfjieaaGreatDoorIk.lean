/-
  The law SeekFinds of reredos, layer 15, answers true at every input, and leaves its arguments as they were. Conditions: the five package-level variables of the library that the row lists (math/bits' two tables, strconv's table of powers of ten, ErrRange, ErrSyntax) hold what the program's text lays in them; the card ties that to the text.
-/
import Derived.Test.YthjcnifdlfjieaaGreatDoorIj
import Derived.Test.YthjcnifdlfjieaaGreatDoorCards
import Derived.Test.YthjcnifdlfjieaaGreatDoorTie
import Derived.SevenTiedAt
namespace Go.Proofs.YthjcnifdlfjieaaGreatDoor
open Go

theorem seekFinds_card_holds : Rows.SeekFindsCardSaid :=
  Claim7.holds_tied_plain_at .later [] [.data, .data, .data, .sentinel, .sentinel] true (true, "9a76eef31cb18c94a5fc1f0e9fdddbbdcc6eaf09f1a326310eb2a8787297e52b") true
    Ij.seekFinds_said (fun _ h => by cases h) (by kernel_rfl) (fun _ h => by cases h) seekFinds_row_tie rfl ⟨rfl, rfl⟩ (by kernel_rfl) rfl
    (fun f fn hf hfn => by
      obtain rfl : f = 3 := Option.some.inj ((show Tryz.prog.funcNamed "reredos/reredoslaw15.SeekFinds" = some 3 by kernel_rfl).symm.trans hf) |>.symm
      obtain rfl : fn = Tryz.f3 := (Option.some.inj (Tryz.func3.symm.trans hfn)).symm
      exact ⟨by kernel_rfl, fun j t ht => by
        rw [Tryz.params3] at ht
        have hm : t ∈ [25, 25] := by simpa using Array.mem_of_getElem? ht
        have hall : ([25, 25].all fun u => !Tryz.prog.wantsStandIn u) = true := by kernel_rfl
        exact (show Tryz.prog.wantsStandIn t = false by simpa using List.all_eq_true.1 hall t hm)⟩)
    (by kernel_rfl)
#print axioms seekFinds_card_holds
end Go.Proofs.YthjcnifdlfjieaaGreatDoor
