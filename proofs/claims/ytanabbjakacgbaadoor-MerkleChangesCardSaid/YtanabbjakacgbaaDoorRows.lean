/-
  NARROWER THAN 'FOR EVERY INPUT', by the rows' own cells (each row's printed sentence says how): MerkleProves: laid · MerkleBinds: laid · MerkleHalves: laid · MerkleDiffs: laid · MerkleWork: laid · MerkleRefuses: laid · MerkleChanges: laid.
  DERIVED. THE GIVEN ROWS OF THIS SEAT. 7 by the template 'for every input the law returns true; each argument reads behind the call as it read before'; 0 by the template 'total and deterministic' (their statements: YtanabbjakacgbaaDoorTotals.lean).
  GIVEN WITH THE SEED: the statements are not yours to turn. If you find one false, say at which input.
  Laid BY PROGRAM, IN A SANDBOX (cutbox-rows.mjs): the forced cells as the released guide's own fill.sh prints them over the translation 38fbc557a4184ba1… (all of the seat's roots in one cut). By AI agents, Wed Nov 11 2026. No macro, syntax, notation, axiom, sorry.
-/
import Derived.Test.YtanabbjakacgbaaDoorChecked
import GoSem.Claim
import GoSem.ClaimJoined
import GoSem.ClaimMapViews
import Derived.JoinedTies
import Derived.KernelRfl
namespace Go.Proofs.YtanabbjakacgbaaDoor
/- THE CELL 'sum', in the pinned program and in every row, IS THE sha256 OF THE DUMP (.gsa) THAT YtanabbjakacgbaaDoorProg.lean LOADS. Nothing in Lean hashes anything: it is a label: what it is worth is what the hold of that sum in a sandbox is worth. -/
noncomputable def Tryd.pinned : Pinned := { name := "ytanabbjakacgbaadoor", sum := "38fbc557a4184ba19859b89225981f9681a084947d8ac55fc9d7305a2b9ce84d", checked := Tryd.checked }
namespace Rows
def none {H : Type} : Left H := { results := [], args := [] }

/- WHAT THE LISTED PACKAGE-LEVEL VARIABLES READ AS WHEN THE CALL BEGINS. Each datum BY PROGRAM (the guide's laid-datum.mjs) off the statement by which the dump's own 'gosem.cut.vars' lays the variable. In a bare row this is a premise. The card (YtanabbjakacgbaaDoorCards.lean) ties it to the program's text. -/
def laid_burgage_sponge_words {H : Type} : DataW H := .agg [.lit (.int .u64 1), .lit (.int .u64 32898), .lit (.int .u64 9223372036854808714), .lit (.int .u64 9223372039002292224), .lit (.int .u64 32907), .lit (.int .u64 2147483649), .lit (.int .u64 9223372039002292353), .lit (.int .u64 9223372036854808585), .lit (.int .u64 138), .lit (.int .u64 136), .lit (.int .u64 2147516425), .lit (.int .u64 2147483658), .lit (.int .u64 2147516555), .lit (.int .u64 9223372036854775947), .lit (.int .u64 9223372036854808713), .lit (.int .u64 9223372036854808579), .lit (.int .u64 9223372036854808578), .lit (.int .u64 9223372036854775936), .lit (.int .u64 32778), .lit (.int .u64 9223372039002259466), .lit (.int .u64 9223372039002292353), .lit (.int .u64 9223372036854808704), .lit (.int .u64 2147483649), .lit (.int .u64 9223372039002292232)]

/-- 'burgagelaw04.MerkleProves': WHATEVER THE INPUT: true; the input reads as it did. -/
def merkleProvesSpec : ChangeSpec := { name := "merkleProves", fn := fun _ => fun
  | [d1, d2] => { results := [.lit (.bool true)], args := [d1, d2] }
  | _ => none }
def merkleProvesRow : OpenClaim := { program := "ytanabbjakacgbaadoor", sum := "38fbc557a4184ba19859b89225981f9681a084947d8ac55fc9d7305a2b9ce84d", func := "burgage/burgagelaw04.MerkleProves", spec := "merkleProves", unfollowed := true, recurses := true, named := ["burgage/sponge.words"], apart := false, laid := [("burgage/sponge.words", laid_burgage_sponge_words)] }
def MerkleProvesSaid : Prop := merkleProvesRow.holds Tryd.pinned (OpenSpec.ofChange merkleProvesSpec)

/-- ITS FALSE NEIGHBOUR: 'it returns false'. Refute it at one input. -/
def merkleProvesWrong : ChangeSpec := { name := "merkleProves", fn := fun _ => fun
  | [d1, d2] => { results := [.lit (.bool false)], args := [d1, d2] }
  | _ => none }
def MerkleProvesWrongFalsely : Prop := merkleProvesRow.holds Tryd.pinned (OpenSpec.ofChange merkleProvesWrong)

/-- 'burgagelaw04.MerkleBinds': WHATEVER THE INPUT: true; the input reads as it did. -/
def merkleBindsSpec : ChangeSpec := { name := "merkleBinds", fn := fun _ => fun
  | [d1, d2, d3] => { results := [.lit (.bool true)], args := [d1, d2, d3] }
  | _ => none }
def merkleBindsRow : OpenClaim := { program := "ytanabbjakacgbaadoor", sum := "38fbc557a4184ba19859b89225981f9681a084947d8ac55fc9d7305a2b9ce84d", func := "burgage/burgagelaw04.MerkleBinds", spec := "merkleBinds", unfollowed := true, recurses := true, named := ["burgage/sponge.words"], apart := false, laid := [("burgage/sponge.words", laid_burgage_sponge_words)] }
def MerkleBindsSaid : Prop := merkleBindsRow.holds Tryd.pinned (OpenSpec.ofChange merkleBindsSpec)

/-- ITS FALSE NEIGHBOUR: 'it returns false'. Refute it at one input. -/
def merkleBindsWrong : ChangeSpec := { name := "merkleBinds", fn := fun _ => fun
  | [d1, d2, d3] => { results := [.lit (.bool false)], args := [d1, d2, d3] }
  | _ => none }
def MerkleBindsWrongFalsely : Prop := merkleBindsRow.holds Tryd.pinned (OpenSpec.ofChange merkleBindsWrong)

/-- 'burgagelaw04.MerkleHalves': WHATEVER THE INPUT: true; the input reads as it did. -/
def merkleHalvesSpec : ChangeSpec := { name := "merkleHalves", fn := fun _ => fun
  | [d] => { results := [.lit (.bool true)], args := [d] }
  | _ => none }
def merkleHalvesRow : OpenClaim := { program := "ytanabbjakacgbaadoor", sum := "38fbc557a4184ba19859b89225981f9681a084947d8ac55fc9d7305a2b9ce84d", func := "burgage/burgagelaw04.MerkleHalves", spec := "merkleHalves", unfollowed := true, recurses := true, named := ["burgage/sponge.words"], apart := false, laid := [("burgage/sponge.words", laid_burgage_sponge_words)] }
def MerkleHalvesSaid : Prop := merkleHalvesRow.holds Tryd.pinned (OpenSpec.ofChange merkleHalvesSpec)

/-- ITS FALSE NEIGHBOUR: 'it returns false'. Refute it at one input. -/
def merkleHalvesWrong : ChangeSpec := { name := "merkleHalves", fn := fun _ => fun
  | [d] => { results := [.lit (.bool false)], args := [d] }
  | _ => none }
def MerkleHalvesWrongFalsely : Prop := merkleHalvesRow.holds Tryd.pinned (OpenSpec.ofChange merkleHalvesWrong)

/-- 'burgagelaw04.MerkleDiffs': WHATEVER THE INPUT: true; the input reads as it did. -/
def merkleDiffsSpec : ChangeSpec := { name := "merkleDiffs", fn := fun _ => fun
  | [d1, d2] => { results := [.lit (.bool true)], args := [d1, d2] }
  | _ => none }
def merkleDiffsRow : OpenClaim := { program := "ytanabbjakacgbaadoor", sum := "38fbc557a4184ba19859b89225981f9681a084947d8ac55fc9d7305a2b9ce84d", func := "burgage/burgagelaw04.MerkleDiffs", spec := "merkleDiffs", unfollowed := true, recurses := true, named := ["burgage/sponge.words"], apart := false, laid := [("burgage/sponge.words", laid_burgage_sponge_words)] }
def MerkleDiffsSaid : Prop := merkleDiffsRow.holds Tryd.pinned (OpenSpec.ofChange merkleDiffsSpec)

/-- ITS FALSE NEIGHBOUR: 'it returns false'. Refute it at one input. -/
def merkleDiffsWrong : ChangeSpec := { name := "merkleDiffs", fn := fun _ => fun
  | [d1, d2] => { results := [.lit (.bool false)], args := [d1, d2] }
  | _ => none }
def MerkleDiffsWrongFalsely : Prop := merkleDiffsRow.holds Tryd.pinned (OpenSpec.ofChange merkleDiffsWrong)

/-- 'burgagelaw04.MerkleWork': WHATEVER THE INPUT: true; the input reads as it did. -/
def merkleWorkSpec : ChangeSpec := { name := "merkleWork", fn := fun _ => fun
  | [d1, d2] => { results := [.lit (.bool true)], args := [d1, d2] }
  | _ => none }
def merkleWorkRow : OpenClaim := { program := "ytanabbjakacgbaadoor", sum := "38fbc557a4184ba19859b89225981f9681a084947d8ac55fc9d7305a2b9ce84d", func := "burgage/burgagelaw04.MerkleWork", spec := "merkleWork", unfollowed := true, recurses := true, named := ["burgage/sponge.words"], apart := false, laid := [("burgage/sponge.words", laid_burgage_sponge_words)] }
def MerkleWorkSaid : Prop := merkleWorkRow.holds Tryd.pinned (OpenSpec.ofChange merkleWorkSpec)

/-- ITS FALSE NEIGHBOUR: 'it returns false'. Refute it at one input. -/
def merkleWorkWrong : ChangeSpec := { name := "merkleWork", fn := fun _ => fun
  | [d1, d2] => { results := [.lit (.bool false)], args := [d1, d2] }
  | _ => none }
def MerkleWorkWrongFalsely : Prop := merkleWorkRow.holds Tryd.pinned (OpenSpec.ofChange merkleWorkWrong)

/-- 'burgagelaw04.MerkleRefuses': WHATEVER THE INPUT: true; the input reads as it did. -/
def merkleRefusesSpec : ChangeSpec := { name := "merkleRefuses", fn := fun _ => fun
  | [d1, d2] => { results := [.lit (.bool true)], args := [d1, d2] }
  | _ => none }
def merkleRefusesRow : OpenClaim := { program := "ytanabbjakacgbaadoor", sum := "38fbc557a4184ba19859b89225981f9681a084947d8ac55fc9d7305a2b9ce84d", func := "burgage/burgagelaw04.MerkleRefuses", spec := "merkleRefuses", unfollowed := true, recurses := true, named := ["burgage/sponge.words"], apart := false, laid := [("burgage/sponge.words", laid_burgage_sponge_words)] }
def MerkleRefusesSaid : Prop := merkleRefusesRow.holds Tryd.pinned (OpenSpec.ofChange merkleRefusesSpec)

/-- ITS FALSE NEIGHBOUR: 'it returns false'. Refute it at one input. -/
def merkleRefusesWrong : ChangeSpec := { name := "merkleRefuses", fn := fun _ => fun
  | [d1, d2] => { results := [.lit (.bool false)], args := [d1, d2] }
  | _ => none }
def MerkleRefusesWrongFalsely : Prop := merkleRefusesRow.holds Tryd.pinned (OpenSpec.ofChange merkleRefusesWrong)

/-- 'burgagelaw04.MerkleChanges': WHATEVER THE INPUT: true; the input reads as it did. -/
def merkleChangesSpec : ChangeSpec := { name := "merkleChanges", fn := fun _ => fun
  | [d1, d2] => { results := [.lit (.bool true)], args := [d1, d2] }
  | _ => none }
def merkleChangesRow : OpenClaim := { program := "ytanabbjakacgbaadoor", sum := "38fbc557a4184ba19859b89225981f9681a084947d8ac55fc9d7305a2b9ce84d", func := "burgage/burgagelaw04.MerkleChanges", spec := "merkleChanges", inPlace := ["internal/bytealg.abigen_runtime_cmpstring", "slices.overlaps[burgage/api.Leaf]"], unfollowed := true, recurses := true, named := ["burgage/sponge.words"], apart := false, laid := [("burgage/sponge.words", laid_burgage_sponge_words)] }
def MerkleChangesSaid : Prop := merkleChangesRow.holds Tryd.pinned (OpenSpec.ofChange merkleChangesSpec)

/-- ITS FALSE NEIGHBOUR: 'it returns false'. Refute it at one input. -/
def merkleChangesWrong : ChangeSpec := { name := "merkleChanges", fn := fun _ => fun
  | [d1, d2] => { results := [.lit (.bool false)], args := [d1, d2] }
  | _ => none }
def MerkleChangesWrongFalsely : Prop := merkleChangesRow.holds Tryd.pinned (OpenSpec.ofChange merkleChangesWrong)

/- THE SECOND FORM. 'bulk': how many values and letters a reading holds, each counted each time it is reached (what is shared counts as often as it is met; a slice's spare places count too). A statement '..UptoSaid' is the law's where the arguments, and the package variables that the reading takes, are together of bulk at most 1048576: NARROWER than '..Said'. Prove '..Said' where nothing that the law and all that it calls make is longer than what came in: it says more and counts as full. Else prove '..UptoSaid'. A law counts once. -/
mutual
def uptoBulk {H : Type} : DataW H → Nat
  | .lit (.string bytes) => bytes.length + 1
  | .lit _ => 1
  | .nil => 1
  | .ptr d => uptoBulk d + 1
  | .slice elems spare => uptoBulkAll elems + uptoBulkAll spare + 1
  | .agg parts => uptoBulkAll parts + 1
  | .iface _ d => uptoBulk d + 1
  | .map entries => uptoBulkEntries entries + 1
  | .held _ => 1
def uptoBulkAll {H : Type} : List (DataW H) → Nat
  | [] => 0
  | d :: r => uptoBulk d + uptoBulkAll r
def uptoBulkEntries {H : Type} : List (Lit × DataW H) → Nat
  | [] => 0
  | x :: r => uptoBulkEntry x + uptoBulkEntries r
def uptoBulkEntry {H : Type} : Lit × DataW H → Nat
  | (.string bytes, d) => bytes.length + uptoBulk d + 1
  | (_, d) => uptoBulk d + 1
 end
def uptoSmall : (H : Type) → List (DataW H) → Bool := fun _ ds => decide (uptoBulkAll ds ≤ 1048576)
def OpenSpec.upto (s : _root_.Go.ChangeSpec) : _root_.Go.OpenSpec := { _root_.Go.OpenSpec.ofChange s with cond := some uptoSmall }

/-- 'burgagelaw04.MerkleProves', WHERE WHAT IT READS IS OF BULK AT MOST 1048576: true; the input reads as it did. -/
def merkleProvesUptoRow : OpenClaim := { program := "ytanabbjakacgbaadoor", sum := "38fbc557a4184ba19859b89225981f9681a084947d8ac55fc9d7305a2b9ce84d", func := "burgage/burgagelaw04.MerkleProves", spec := "merkleProves", unfollowed := true, recurses := true, named := ["burgage/sponge.words"], apart := false, laid := [("burgage/sponge.words", laid_burgage_sponge_words)], narrowed := true }
def MerkleProvesUptoSaid : Prop := merkleProvesUptoRow.holds Tryd.pinned (OpenSpec.upto merkleProvesSpec)

/-- 'burgagelaw04.MerkleBinds', WHERE WHAT IT READS IS OF BULK AT MOST 1048576: true; the input reads as it did. -/
def merkleBindsUptoRow : OpenClaim := { program := "ytanabbjakacgbaadoor", sum := "38fbc557a4184ba19859b89225981f9681a084947d8ac55fc9d7305a2b9ce84d", func := "burgage/burgagelaw04.MerkleBinds", spec := "merkleBinds", unfollowed := true, recurses := true, named := ["burgage/sponge.words"], apart := false, laid := [("burgage/sponge.words", laid_burgage_sponge_words)], narrowed := true }
def MerkleBindsUptoSaid : Prop := merkleBindsUptoRow.holds Tryd.pinned (OpenSpec.upto merkleBindsSpec)

/-- 'burgagelaw04.MerkleHalves', WHERE WHAT IT READS IS OF BULK AT MOST 1048576: true; the input reads as it did. -/
def merkleHalvesUptoRow : OpenClaim := { program := "ytanabbjakacgbaadoor", sum := "38fbc557a4184ba19859b89225981f9681a084947d8ac55fc9d7305a2b9ce84d", func := "burgage/burgagelaw04.MerkleHalves", spec := "merkleHalves", unfollowed := true, recurses := true, named := ["burgage/sponge.words"], apart := false, laid := [("burgage/sponge.words", laid_burgage_sponge_words)], narrowed := true }
def MerkleHalvesUptoSaid : Prop := merkleHalvesUptoRow.holds Tryd.pinned (OpenSpec.upto merkleHalvesSpec)

/-- 'burgagelaw04.MerkleDiffs', WHERE WHAT IT READS IS OF BULK AT MOST 1048576: true; the input reads as it did. -/
def merkleDiffsUptoRow : OpenClaim := { program := "ytanabbjakacgbaadoor", sum := "38fbc557a4184ba19859b89225981f9681a084947d8ac55fc9d7305a2b9ce84d", func := "burgage/burgagelaw04.MerkleDiffs", spec := "merkleDiffs", unfollowed := true, recurses := true, named := ["burgage/sponge.words"], apart := false, laid := [("burgage/sponge.words", laid_burgage_sponge_words)], narrowed := true }
def MerkleDiffsUptoSaid : Prop := merkleDiffsUptoRow.holds Tryd.pinned (OpenSpec.upto merkleDiffsSpec)

/-- 'burgagelaw04.MerkleWork', WHERE WHAT IT READS IS OF BULK AT MOST 1048576: true; the input reads as it did. -/
def merkleWorkUptoRow : OpenClaim := { program := "ytanabbjakacgbaadoor", sum := "38fbc557a4184ba19859b89225981f9681a084947d8ac55fc9d7305a2b9ce84d", func := "burgage/burgagelaw04.MerkleWork", spec := "merkleWork", unfollowed := true, recurses := true, named := ["burgage/sponge.words"], apart := false, laid := [("burgage/sponge.words", laid_burgage_sponge_words)], narrowed := true }
def MerkleWorkUptoSaid : Prop := merkleWorkUptoRow.holds Tryd.pinned (OpenSpec.upto merkleWorkSpec)

/-- 'burgagelaw04.MerkleRefuses', WHERE WHAT IT READS IS OF BULK AT MOST 1048576: true; the input reads as it did. -/
def merkleRefusesUptoRow : OpenClaim := { program := "ytanabbjakacgbaadoor", sum := "38fbc557a4184ba19859b89225981f9681a084947d8ac55fc9d7305a2b9ce84d", func := "burgage/burgagelaw04.MerkleRefuses", spec := "merkleRefuses", unfollowed := true, recurses := true, named := ["burgage/sponge.words"], apart := false, laid := [("burgage/sponge.words", laid_burgage_sponge_words)], narrowed := true }
def MerkleRefusesUptoSaid : Prop := merkleRefusesUptoRow.holds Tryd.pinned (OpenSpec.upto merkleRefusesSpec)

/-- 'burgagelaw04.MerkleChanges', WHERE WHAT IT READS IS OF BULK AT MOST 1048576: true; the input reads as it did. -/
def merkleChangesUptoRow : OpenClaim := { program := "ytanabbjakacgbaadoor", sum := "38fbc557a4184ba19859b89225981f9681a084947d8ac55fc9d7305a2b9ce84d", func := "burgage/burgagelaw04.MerkleChanges", spec := "merkleChanges", inPlace := ["internal/bytealg.abigen_runtime_cmpstring", "slices.overlaps[burgage/api.Leaf]"], unfollowed := true, recurses := true, named := ["burgage/sponge.words"], apart := false, laid := [("burgage/sponge.words", laid_burgage_sponge_words)], narrowed := true }
def MerkleChangesUptoSaid : Prop := merkleChangesUptoRow.holds Tryd.pinned (OpenSpec.upto merkleChangesSpec)

end Rows
end Go.Proofs.YtanabbjakacgbaaDoor
