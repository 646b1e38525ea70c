/-
  DERIVED. GIVEN WITH THE SEED: THE CARDS: each row of YtanabbjakacgbaaDoorRows.lean that lists a variable, with what it lists TIED to the program's text (the seventh form; the later family's looks); each row that meets fmt, with fmt's text TOLD by the authors' own Lean function (tested against real Go, not proved from fmt's source: count such statements apart). THE CARD IS WHAT COUNTS. Prove the row's statement (the work); the ties are given (YtanabbjakacgbaaDoorTie.lean); close each card by the builder's one call (the guide's Derived/Test/ToyasCard.lean, 'card_holds'). Laid BY PROGRAM, IN A SANDBOX (cutbox-door.mjs). By AI agents, Wed Nov 11 2026. No macro, syntax, notation, axiom, sorry.
-/
import Derived.Test.YtanabbjakacgbaaDoorRows
import GoSem.ClaimSeven
namespace Go.Proofs.YtanabbjakacgbaaDoor
namespace Rows

/-- THE TIED CARD OF 'burgagelaw04.MerkleProves'. -/
def merkleProvesCard : Claim7 := { stood := { row := merkleProvesRow, standIns := [], harness := (true, "7cd61a226f883657e3bc231bcb9333ed521414ae231b014c89661dcd2ba5a140"), looks := false }, kinds := [], alts := [], laidByText := true, laidKinds := [.data], laidTests := true, laidLooks := .later }
def MerkleProvesCardSaid : Prop := Claim7.holds Tryd.pinned (.plain (OpenSpec.ofChange merkleProvesSpec)) merkleProvesCard

/-- THE TIED CARD OF 'burgagelaw04.MerkleBinds'. -/
def merkleBindsCard : Claim7 := { stood := { row := merkleBindsRow, standIns := [], harness := (true, "7cd61a226f883657e3bc231bcb9333ed521414ae231b014c89661dcd2ba5a140"), looks := false }, kinds := [], alts := [], laidByText := true, laidKinds := [.data], laidTests := true, laidLooks := .later }
def MerkleBindsCardSaid : Prop := Claim7.holds Tryd.pinned (.plain (OpenSpec.ofChange merkleBindsSpec)) merkleBindsCard

/-- THE TIED CARD OF 'burgagelaw04.MerkleHalves'. -/
def merkleHalvesCard : Claim7 := { stood := { row := merkleHalvesRow, standIns := [], harness := (true, "7cd61a226f883657e3bc231bcb9333ed521414ae231b014c89661dcd2ba5a140"), looks := false }, kinds := [], alts := [], laidByText := true, laidKinds := [.data], laidTests := true, laidLooks := .later }
def MerkleHalvesCardSaid : Prop := Claim7.holds Tryd.pinned (.plain (OpenSpec.ofChange merkleHalvesSpec)) merkleHalvesCard

/-- THE TIED CARD OF 'burgagelaw04.MerkleDiffs'. -/
def merkleDiffsCard : Claim7 := { stood := { row := merkleDiffsRow, standIns := [], harness := (true, "7cd61a226f883657e3bc231bcb9333ed521414ae231b014c89661dcd2ba5a140"), looks := false }, kinds := [], alts := [], laidByText := true, laidKinds := [.data], laidTests := true, laidLooks := .later }
def MerkleDiffsCardSaid : Prop := Claim7.holds Tryd.pinned (.plain (OpenSpec.ofChange merkleDiffsSpec)) merkleDiffsCard

/-- THE TIED CARD OF 'burgagelaw04.MerkleWork'. -/
def merkleWorkCard : Claim7 := { stood := { row := merkleWorkRow, standIns := [], harness := (true, "7cd61a226f883657e3bc231bcb9333ed521414ae231b014c89661dcd2ba5a140"), looks := false }, kinds := [], alts := [], laidByText := true, laidKinds := [.data], laidTests := true, laidLooks := .later }
def MerkleWorkCardSaid : Prop := Claim7.holds Tryd.pinned (.plain (OpenSpec.ofChange merkleWorkSpec)) merkleWorkCard

/-- THE TIED CARD OF 'burgagelaw04.MerkleRefuses'. -/
def merkleRefusesCard : Claim7 := { stood := { row := merkleRefusesRow, standIns := [], harness := (true, "7cd61a226f883657e3bc231bcb9333ed521414ae231b014c89661dcd2ba5a140"), looks := false }, kinds := [], alts := [], laidByText := true, laidKinds := [.data], laidTests := true, laidLooks := .later }
def MerkleRefusesCardSaid : Prop := Claim7.holds Tryd.pinned (.plain (OpenSpec.ofChange merkleRefusesSpec)) merkleRefusesCard

/-- THE TIED CARD OF 'burgagelaw04.MerkleChanges'. -/
def merkleChangesCard : Claim7 := { stood := { row := merkleChangesRow, standIns := [], harness := (true, "7cd61a226f883657e3bc231bcb9333ed521414ae231b014c89661dcd2ba5a140"), looks := false }, kinds := [], alts := [], laidByText := true, laidKinds := [.data], laidTests := true, laidLooks := .later }
def MerkleChangesCardSaid : Prop := Claim7.holds Tryd.pinned (.plain (OpenSpec.ofChange merkleChangesSpec)) merkleChangesCard

/-- THE SECOND FORM's CARD OF 'burgagelaw04.MerkleProves'. -/
def merkleProvesUptoCard : Claim7 := { stood := { row := merkleProvesUptoRow, standIns := [], harness := (true, "7cd61a226f883657e3bc231bcb9333ed521414ae231b014c89661dcd2ba5a140"), looks := false }, kinds := [], alts := [], laidByText := true, laidKinds := [.data], laidTests := true, laidLooks := .later }
def MerkleProvesUptoCardSaid : Prop := Claim7.holds Tryd.pinned (.plain (OpenSpec.upto merkleProvesSpec)) merkleProvesUptoCard

/-- THE SECOND FORM's CARD OF 'burgagelaw04.MerkleBinds'. -/
def merkleBindsUptoCard : Claim7 := { stood := { row := merkleBindsUptoRow, standIns := [], harness := (true, "7cd61a226f883657e3bc231bcb9333ed521414ae231b014c89661dcd2ba5a140"), looks := false }, kinds := [], alts := [], laidByText := true, laidKinds := [.data], laidTests := true, laidLooks := .later }
def MerkleBindsUptoCardSaid : Prop := Claim7.holds Tryd.pinned (.plain (OpenSpec.upto merkleBindsSpec)) merkleBindsUptoCard

/-- THE SECOND FORM's CARD OF 'burgagelaw04.MerkleHalves'. -/
def merkleHalvesUptoCard : Claim7 := { stood := { row := merkleHalvesUptoRow, standIns := [], harness := (true, "7cd61a226f883657e3bc231bcb9333ed521414ae231b014c89661dcd2ba5a140"), looks := false }, kinds := [], alts := [], laidByText := true, laidKinds := [.data], laidTests := true, laidLooks := .later }
def MerkleHalvesUptoCardSaid : Prop := Claim7.holds Tryd.pinned (.plain (OpenSpec.upto merkleHalvesSpec)) merkleHalvesUptoCard

/-- THE SECOND FORM's CARD OF 'burgagelaw04.MerkleDiffs'. -/
def merkleDiffsUptoCard : Claim7 := { stood := { row := merkleDiffsUptoRow, standIns := [], harness := (true, "7cd61a226f883657e3bc231bcb9333ed521414ae231b014c89661dcd2ba5a140"), looks := false }, kinds := [], alts := [], laidByText := true, laidKinds := [.data], laidTests := true, laidLooks := .later }
def MerkleDiffsUptoCardSaid : Prop := Claim7.holds Tryd.pinned (.plain (OpenSpec.upto merkleDiffsSpec)) merkleDiffsUptoCard

/-- THE SECOND FORM's CARD OF 'burgagelaw04.MerkleWork'. -/
def merkleWorkUptoCard : Claim7 := { stood := { row := merkleWorkUptoRow, standIns := [], harness := (true, "7cd61a226f883657e3bc231bcb9333ed521414ae231b014c89661dcd2ba5a140"), looks := false }, kinds := [], alts := [], laidByText := true, laidKinds := [.data], laidTests := true, laidLooks := .later }
def MerkleWorkUptoCardSaid : Prop := Claim7.holds Tryd.pinned (.plain (OpenSpec.upto merkleWorkSpec)) merkleWorkUptoCard

/-- THE SECOND FORM's CARD OF 'burgagelaw04.MerkleRefuses'. -/
def merkleRefusesUptoCard : Claim7 := { stood := { row := merkleRefusesUptoRow, standIns := [], harness := (true, "7cd61a226f883657e3bc231bcb9333ed521414ae231b014c89661dcd2ba5a140"), looks := false }, kinds := [], alts := [], laidByText := true, laidKinds := [.data], laidTests := true, laidLooks := .later }
def MerkleRefusesUptoCardSaid : Prop := Claim7.holds Tryd.pinned (.plain (OpenSpec.upto merkleRefusesSpec)) merkleRefusesUptoCard

/-- THE SECOND FORM's CARD OF 'burgagelaw04.MerkleChanges'. -/
def merkleChangesUptoCard : Claim7 := { stood := { row := merkleChangesUptoRow, standIns := [], harness := (true, "7cd61a226f883657e3bc231bcb9333ed521414ae231b014c89661dcd2ba5a140"), looks := false }, kinds := [], alts := [], laidByText := true, laidKinds := [.data], laidTests := true, laidLooks := .later }
def MerkleChangesUptoCardSaid : Prop := Claim7.holds Tryd.pinned (.plain (OpenSpec.upto merkleChangesSpec)) merkleChangesUptoCard
end Rows
end Go.Proofs.YtanabbjakacgbaaDoor
