/-
  DERIVED. GIVEN WITH THE SEED: THE CARDS: each row of YtanabbjakacgbaaGreatDoorRows.lean that lists a variable, with what it lists TIED to the program's text (the seventh form; the later family's looks); each row that meets fmt, with fmt's text TOLD by the authors' own Lean function (tested against real Go, not proved from fmt's source: count such statements apart). THE CARD IS WHAT COUNTS. Prove the row's statement (the work); the ties are given (YtanabbjakacgbaaGreatDoorTie.lean); close each card by the builder's one call (the guide's Derived/Test/ToyasCard.lean, 'card_holds'). Laid BY PROGRAM, IN A SANDBOX (cutbox-door.mjs). By AI agents, Wed Nov 11 2026. No macro, syntax, notation, axiom, sorry.
-/
import Derived.Test.YtanabbjakacgbaaGreatDoorRows
import GoSem.ClaimSeven
namespace Go.Proofs.YtanabbjakacgbaaGreatDoor
namespace Rows

/-- THE TIED CARD OF 'burgagelaw04.MerkleMatchesReference'. -/
def merkleMatchesReferenceCard : Claim7 := { stood := { row := merkleMatchesReferenceRow, standIns := [], harness := (true, "99592c0339d4bc9ac5eea2634f14d52165f0c64fb823f3ebd1c3c2c040671088"), looks := false }, kinds := [], alts := [], laidByText := true, laidKinds := [.data], laidTests := true, laidLooks := .later }
def MerkleMatchesReferenceCardSaid : Prop := Claim7.holds Tryz.pinned (.plain (OpenSpec.ofChange merkleMatchesReferenceSpec)) merkleMatchesReferenceCard

/-- THE SECOND FORM's CARD OF 'burgagelaw04.MerkleMatchesReference'. -/
def merkleMatchesReferenceUptoCard : Claim7 := { stood := { row := merkleMatchesReferenceUptoRow, standIns := [], harness := (true, "99592c0339d4bc9ac5eea2634f14d52165f0c64fb823f3ebd1c3c2c040671088"), looks := false }, kinds := [], alts := [], laidByText := true, laidKinds := [.data], laidTests := true, laidLooks := .later }
def MerkleMatchesReferenceUptoCardSaid : Prop := Claim7.holds Tryz.pinned (.plain (OpenSpec.upto merkleMatchesReferenceSpec)) merkleMatchesReferenceUptoCard
end Rows
end Go.Proofs.YtanabbjakacgbaaGreatDoor
