/-
  DERIVED. GIVEN WITH THE SEED: THE CARDS: each row of YthjcnifdlfjieaaGreatDoorRows.lean that lists a variable, with what it lists TIED to the program's text (the seventh form; the later family's looks); each row that meets fmt, with fmt's text TOLD by the authors' own Lean function (tested against real Go, not proved from fmt's source: count such statements apart). THE CARD IS WHAT COUNTS. Prove the row's statement (the work); the ties are given (YthjcnifdlfjieaaGreatDoorTie.lean); close each card by the builder's one call (the guide's Derived/Test/ToyasCard.lean, 'card_holds'). Laid BY PROGRAM, IN A SANDBOX (cutbox-door.mjs). By AI agents, Wed Nov 11 2026. No macro, syntax, notation, axiom, sorry.
-/
import Derived.Test.YthjcnifdlfjieaaGreatDoorRows
import GoSem.ClaimSeven
namespace Go.Proofs.YthjcnifdlfjieaaGreatDoor
namespace Rows

/-- THE TIED CARD OF 'reredoslaw15.SeekFinds'. -/
def seekFindsCard : Claim7 := { stood := { row := seekFindsRow, standIns := [], harness := (true, "9a76eef31cb18c94a5fc1f0e9fdddbbdcc6eaf09f1a326310eb2a8787297e52b"), looks := true }, kinds := [], alts := [], laidByText := true, laidKinds := [.data, .data, .data, .sentinel, .sentinel], laidTests := true, laidLooks := .later }
def SeekFindsCardSaid : Prop := Claim7.holds Tryz.pinned (.plain (OpenSpec.ofChange seekFindsSpec)) seekFindsCard

/-- THE TIED CARD OF 'reredoslaw15.SeekTwos'. -/
def seekTwosCard : Claim7 := { stood := { row := seekTwosRow, standIns := [], harness := (true, "9a76eef31cb18c94a5fc1f0e9fdddbbdcc6eaf09f1a326310eb2a8787297e52b"), looks := true }, kinds := [], alts := [], laidByText := true, laidKinds := [.data, .data, .data, .sentinel, .sentinel], laidTests := true, laidLooks := .later }
def SeekTwosCardSaid : Prop := Claim7.holds Tryz.pinned (.plain (OpenSpec.ofChange seekTwosSpec)) seekTwosCard

/-- THE SECOND FORM's CARD OF 'reredoslaw15.SeekFinds'. -/
def seekFindsUptoCard : Claim7 := { stood := { row := seekFindsUptoRow, standIns := [], harness := (true, "9a76eef31cb18c94a5fc1f0e9fdddbbdcc6eaf09f1a326310eb2a8787297e52b"), looks := true }, kinds := [], alts := [], laidByText := true, laidKinds := [.data, .data, .data, .sentinel, .sentinel], laidTests := true, laidLooks := .later }
def SeekFindsUptoCardSaid : Prop := Claim7.holds Tryz.pinned (.plain (OpenSpec.upto seekFindsSpec)) seekFindsUptoCard

/-- THE SECOND FORM's CARD OF 'reredoslaw15.SeekTwos'. -/
def seekTwosUptoCard : Claim7 := { stood := { row := seekTwosUptoRow, standIns := [], harness := (true, "9a76eef31cb18c94a5fc1f0e9fdddbbdcc6eaf09f1a326310eb2a8787297e52b"), looks := true }, kinds := [], alts := [], laidByText := true, laidKinds := [.data, .data, .data, .sentinel, .sentinel], laidTests := true, laidLooks := .later }
def SeekTwosUptoCardSaid : Prop := Claim7.holds Tryz.pinned (.plain (OpenSpec.upto seekTwosSpec)) seekTwosUptoCard
end Rows
end Go.Proofs.YthjcnifdlfjieaaGreatDoor
