/-
  No cell of these rows narrows 'for every input' (looked for: loops, veiled, ifaces, maps, wideKeys, modest, calm, conditions, laid).
  DERIVED. THE GIVEN ROWS OF THIS SEAT. 7 by the template 'for every input the law returns true; each argument reads behind the call as it read before'; 0 by the template 'total and deterministic' (their statements: YtmhpclmfacejhaaTotals.lean).
  GIVEN WITH THE SEED: the statements are not yours to turn. If you find one false, say at which input.
  Laid BY PROGRAM, IN A SANDBOX (cutbox-rows.mjs): the forced cells as the released guide's own fill.sh prints them over the translation c321ac0c278b70d3… (all of the seat's roots in one cut). By AI agents, Wed Nov 11 2026. No macro, syntax, notation, axiom, sorry.
-/
import Derived.Test.YtmhpclmfacejhaaChecked
import GoSem.Claim
import GoSem.ClaimJoined
import GoSem.ClaimMapViews
import Derived.JoinedTies
import Derived.KernelRfl
namespace Go.Proofs.Ytmhpclmfacejhaa
/- THE CELL 'sum', in the pinned program and in every row, IS THE sha256 OF THE DUMP (.gsa) THAT YtmhpclmfacejhaaProg.lean LOADS. Nothing in Lean hashes anything: it is a label: what it is worth is what the hold of that sum in a sandbox is worth. -/
noncomputable def Try.pinned : Pinned := { name := "ytmhpclmfacejhaa", sum := "c321ac0c278b70d3baa57d6acb11c343d9440ff3e677112a71d5d54b04ec6a6c", checked := Try.checked }
namespace Rows
def none {H : Type} : Left H := { results := [], args := [] }

/-- 'burgagelaw16.ClockMatchesReference': WHATEVER THE INPUT: true; the input reads as it did. -/
def clockMatchesReferenceSpec : ChangeSpec := { name := "clockMatchesReference", fn := fun _ => fun
  | [d1, d2, d3] => { results := [.lit (.bool true)], args := [d1, d2, d3] }
  | _ => none }
def clockMatchesReferenceRow : OpenClaim := { program := "ytmhpclmfacejhaa", sum := "c321ac0c278b70d3baa57d6acb11c343d9440ff3e677112a71d5d54b04ec6a6c", func := "burgage/burgagelaw16.ClockMatchesReference", spec := "clockMatchesReference", apart := false }
def ClockMatchesReferenceSaid : Prop := clockMatchesReferenceRow.holds Try.pinned (OpenSpec.ofChange clockMatchesReferenceSpec)

/-- ITS FALSE NEIGHBOUR: 'it returns false'. Refute it at one input. -/
def clockMatchesReferenceWrong : ChangeSpec := { name := "clockMatchesReference", fn := fun _ => fun
  | [d1, d2, d3] => { results := [.lit (.bool false)], args := [d1, d2, d3] }
  | _ => none }
def ClockMatchesReferenceWrongFalsely : Prop := clockMatchesReferenceRow.holds Try.pinned (OpenSpec.ofChange clockMatchesReferenceWrong)

/-- 'burgagelaw16.ClockSafe': WHATEVER THE INPUT: true; the input reads as it did. -/
def clockSafeSpec : ChangeSpec := { name := "clockSafe", fn := fun _ => fun
  | [d1, d2, d3] => { results := [.lit (.bool true)], args := [d1, d2, d3] }
  | _ => none }
def clockSafeRow : OpenClaim := { program := "ytmhpclmfacejhaa", sum := "c321ac0c278b70d3baa57d6acb11c343d9440ff3e677112a71d5d54b04ec6a6c", func := "burgage/burgagelaw16.ClockSafe", spec := "clockSafe", apart := false }
def ClockSafeSaid : Prop := clockSafeRow.holds Try.pinned (OpenSpec.ofChange clockSafeSpec)

/-- ITS FALSE NEIGHBOUR: 'it returns false'. Refute it at one input. -/
def clockSafeWrong : ChangeSpec := { name := "clockSafe", fn := fun _ => fun
  | [d1, d2, d3] => { results := [.lit (.bool false)], args := [d1, d2, d3] }
  | _ => none }
def ClockSafeWrongFalsely : Prop := clockSafeRow.holds Try.pinned (OpenSpec.ofChange clockSafeWrong)

/-- 'burgagelaw16.ClockOrder': WHATEVER THE INPUT: true; the input reads as it did. -/
def clockOrderSpec : ChangeSpec := { name := "clockOrder", fn := fun _ => fun
  | [d1, d2, d3] => { results := [.lit (.bool true)], args := [d1, d2, d3] }
  | _ => none }
def clockOrderRow : OpenClaim := { program := "ytmhpclmfacejhaa", sum := "c321ac0c278b70d3baa57d6acb11c343d9440ff3e677112a71d5d54b04ec6a6c", func := "burgage/burgagelaw16.ClockOrder", spec := "clockOrder", apart := false }
def ClockOrderSaid : Prop := clockOrderRow.holds Try.pinned (OpenSpec.ofChange clockOrderSpec)

/-- ITS FALSE NEIGHBOUR: 'it returns false'. Refute it at one input. -/
def clockOrderWrong : ChangeSpec := { name := "clockOrder", fn := fun _ => fun
  | [d1, d2, d3] => { results := [.lit (.bool false)], args := [d1, d2, d3] }
  | _ => none }
def ClockOrderWrongFalsely : Prop := clockOrderRow.holds Try.pinned (OpenSpec.ofChange clockOrderWrong)

/-- 'burgagelaw16.ClockWaits': WHATEVER THE INPUT: true; the input reads as it did. -/
def clockWaitsSpec : ChangeSpec := { name := "clockWaits", fn := fun _ => fun
  | [d1, d2] => { results := [.lit (.bool true)], args := [d1, d2] }
  | _ => none }
def clockWaitsRow : OpenClaim := { program := "ytmhpclmfacejhaa", sum := "c321ac0c278b70d3baa57d6acb11c343d9440ff3e677112a71d5d54b04ec6a6c", func := "burgage/burgagelaw16.ClockWaits", spec := "clockWaits", apart := false }
def ClockWaitsSaid : Prop := clockWaitsRow.holds Try.pinned (OpenSpec.ofChange clockWaitsSpec)

/-- ITS FALSE NEIGHBOUR: 'it returns false'. Refute it at one input. -/
def clockWaitsWrong : ChangeSpec := { name := "clockWaits", fn := fun _ => fun
  | [d1, d2] => { results := [.lit (.bool false)], args := [d1, d2] }
  | _ => none }
def ClockWaitsWrongFalsely : Prop := clockWaitsRow.holds Try.pinned (OpenSpec.ofChange clockWaitsWrong)

/-- 'burgagelaw16.ClockBounds': WHATEVER THE INPUT: true; the input reads as it did. -/
def clockBoundsSpec : ChangeSpec := { name := "clockBounds", fn := fun _ => fun
  | [d1, d2] => { results := [.lit (.bool true)], args := [d1, d2] }
  | _ => none }
def clockBoundsRow : OpenClaim := { program := "ytmhpclmfacejhaa", sum := "c321ac0c278b70d3baa57d6acb11c343d9440ff3e677112a71d5d54b04ec6a6c", func := "burgage/burgagelaw16.ClockBounds", spec := "clockBounds", apart := false }
def ClockBoundsSaid : Prop := clockBoundsRow.holds Try.pinned (OpenSpec.ofChange clockBoundsSpec)

/-- ITS FALSE NEIGHBOUR: 'it returns false'. Refute it at one input. -/
def clockBoundsWrong : ChangeSpec := { name := "clockBounds", fn := fun _ => fun
  | [d1, d2] => { results := [.lit (.bool false)], args := [d1, d2] }
  | _ => none }
def ClockBoundsWrongFalsely : Prop := clockBoundsRow.holds Try.pinned (OpenSpec.ofChange clockBoundsWrong)

/-- 'burgagelaw16.ClockDrifts': WHATEVER THE INPUT: true; the input reads as it did. -/
def clockDriftsSpec : ChangeSpec := { name := "clockDrifts", fn := fun _ => fun
  | [d1, d2, d3] => { results := [.lit (.bool true)], args := [d1, d2, d3] }
  | _ => none }
def clockDriftsRow : OpenClaim := { program := "ytmhpclmfacejhaa", sum := "c321ac0c278b70d3baa57d6acb11c343d9440ff3e677112a71d5d54b04ec6a6c", func := "burgage/burgagelaw16.ClockDrifts", spec := "clockDrifts", apart := false }
def ClockDriftsSaid : Prop := clockDriftsRow.holds Try.pinned (OpenSpec.ofChange clockDriftsSpec)

/-- ITS FALSE NEIGHBOUR: 'it returns false'. Refute it at one input. -/
def clockDriftsWrong : ChangeSpec := { name := "clockDrifts", fn := fun _ => fun
  | [d1, d2, d3] => { results := [.lit (.bool false)], args := [d1, d2, d3] }
  | _ => none }
def ClockDriftsWrongFalsely : Prop := clockDriftsRow.holds Try.pinned (OpenSpec.ofChange clockDriftsWrong)

/-- 'burgagelaw16.ClockEnds': WHATEVER THE INPUT: true; the input reads as it did. -/
def clockEndsSpec : ChangeSpec := { name := "clockEnds", fn := fun _ => fun
  | [d] => { results := [.lit (.bool true)], args := [d] }
  | _ => none }
def clockEndsRow : OpenClaim := { program := "ytmhpclmfacejhaa", sum := "c321ac0c278b70d3baa57d6acb11c343d9440ff3e677112a71d5d54b04ec6a6c", func := "burgage/burgagelaw16.ClockEnds", spec := "clockEnds", apart := false }
def ClockEndsSaid : Prop := clockEndsRow.holds Try.pinned (OpenSpec.ofChange clockEndsSpec)

/-- ITS FALSE NEIGHBOUR: 'it returns false'. Refute it at one input. -/
def clockEndsWrong : ChangeSpec := { name := "clockEnds", fn := fun _ => fun
  | [d] => { results := [.lit (.bool false)], args := [d] }
  | _ => none }
def ClockEndsWrongFalsely : Prop := clockEndsRow.holds Try.pinned (OpenSpec.ofChange clockEndsWrong)

/- THE SECOND FORM. 'bulk': how many values and letters a reading holds, each counted each time it is reached (what is shared counts as often as it is met; a slice's spare places count too). A statement '..UptoSaid' is the law's where the arguments, and the package variables that the reading takes, are together of bulk at most 1048576: NARROWER than '..Said'. Prove '..Said' where nothing that the law and all that it calls make is longer than what came in: it says more and counts as full. Else prove '..UptoSaid'. A law counts once. -/
mutual
def uptoBulk {H : Type} : DataW H → Nat
  | .lit (.string bytes) => bytes.length + 1
  | .lit _ => 1
  | .nil => 1
  | .ptr d => uptoBulk d + 1
  | .slice elems spare => uptoBulkAll elems + uptoBulkAll spare + 1
  | .agg parts => uptoBulkAll parts + 1
  | .iface _ d => uptoBulk d + 1
  | .map entries => uptoBulkEntries entries + 1
  | .held _ => 1
def uptoBulkAll {H : Type} : List (DataW H) → Nat
  | [] => 0
  | d :: r => uptoBulk d + uptoBulkAll r
def uptoBulkEntries {H : Type} : List (Lit × DataW H) → Nat
  | [] => 0
  | x :: r => uptoBulkEntry x + uptoBulkEntries r
def uptoBulkEntry {H : Type} : Lit × DataW H → Nat
  | (.string bytes, d) => bytes.length + uptoBulk d + 1
  | (_, d) => uptoBulk d + 1
 end
def uptoSmall : (H : Type) → List (DataW H) → Bool := fun _ ds => decide (uptoBulkAll ds ≤ 1048576)
def OpenSpec.upto (s : _root_.Go.ChangeSpec) : _root_.Go.OpenSpec := { _root_.Go.OpenSpec.ofChange s with cond := some uptoSmall }

/-- 'burgagelaw16.ClockMatchesReference', WHERE WHAT IT READS IS OF BULK AT MOST 1048576: true; the input reads as it did. -/
def clockMatchesReferenceUptoRow : OpenClaim := { program := "ytmhpclmfacejhaa", sum := "c321ac0c278b70d3baa57d6acb11c343d9440ff3e677112a71d5d54b04ec6a6c", func := "burgage/burgagelaw16.ClockMatchesReference", spec := "clockMatchesReference", apart := false, narrowed := true }
def ClockMatchesReferenceUptoSaid : Prop := clockMatchesReferenceUptoRow.holds Try.pinned (OpenSpec.upto clockMatchesReferenceSpec)

/-- 'burgagelaw16.ClockSafe', WHERE WHAT IT READS IS OF BULK AT MOST 1048576: true; the input reads as it did. -/
def clockSafeUptoRow : OpenClaim := { program := "ytmhpclmfacejhaa", sum := "c321ac0c278b70d3baa57d6acb11c343d9440ff3e677112a71d5d54b04ec6a6c", func := "burgage/burgagelaw16.ClockSafe", spec := "clockSafe", apart := false, narrowed := true }
def ClockSafeUptoSaid : Prop := clockSafeUptoRow.holds Try.pinned (OpenSpec.upto clockSafeSpec)

/-- 'burgagelaw16.ClockOrder', WHERE WHAT IT READS IS OF BULK AT MOST 1048576: true; the input reads as it did. -/
def clockOrderUptoRow : OpenClaim := { program := "ytmhpclmfacejhaa", sum := "c321ac0c278b70d3baa57d6acb11c343d9440ff3e677112a71d5d54b04ec6a6c", func := "burgage/burgagelaw16.ClockOrder", spec := "clockOrder", apart := false, narrowed := true }
def ClockOrderUptoSaid : Prop := clockOrderUptoRow.holds Try.pinned (OpenSpec.upto clockOrderSpec)

/-- 'burgagelaw16.ClockWaits', WHERE WHAT IT READS IS OF BULK AT MOST 1048576: true; the input reads as it did. -/
def clockWaitsUptoRow : OpenClaim := { program := "ytmhpclmfacejhaa", sum := "c321ac0c278b70d3baa57d6acb11c343d9440ff3e677112a71d5d54b04ec6a6c", func := "burgage/burgagelaw16.ClockWaits", spec := "clockWaits", apart := false, narrowed := true }
def ClockWaitsUptoSaid : Prop := clockWaitsUptoRow.holds Try.pinned (OpenSpec.upto clockWaitsSpec)

/-- 'burgagelaw16.ClockBounds', WHERE WHAT IT READS IS OF BULK AT MOST 1048576: true; the input reads as it did. -/
def clockBoundsUptoRow : OpenClaim := { program := "ytmhpclmfacejhaa", sum := "c321ac0c278b70d3baa57d6acb11c343d9440ff3e677112a71d5d54b04ec6a6c", func := "burgage/burgagelaw16.ClockBounds", spec := "clockBounds", apart := false, narrowed := true }
def ClockBoundsUptoSaid : Prop := clockBoundsUptoRow.holds Try.pinned (OpenSpec.upto clockBoundsSpec)

/-- 'burgagelaw16.ClockDrifts', WHERE WHAT IT READS IS OF BULK AT MOST 1048576: true; the input reads as it did. -/
def clockDriftsUptoRow : OpenClaim := { program := "ytmhpclmfacejhaa", sum := "c321ac0c278b70d3baa57d6acb11c343d9440ff3e677112a71d5d54b04ec6a6c", func := "burgage/burgagelaw16.ClockDrifts", spec := "clockDrifts", apart := false, narrowed := true }
def ClockDriftsUptoSaid : Prop := clockDriftsUptoRow.holds Try.pinned (OpenSpec.upto clockDriftsSpec)

/-- 'burgagelaw16.ClockEnds', WHERE WHAT IT READS IS OF BULK AT MOST 1048576: true; the input reads as it did. -/
def clockEndsUptoRow : OpenClaim := { program := "ytmhpclmfacejhaa", sum := "c321ac0c278b70d3baa57d6acb11c343d9440ff3e677112a71d5d54b04ec6a6c", func := "burgage/burgagelaw16.ClockEnds", spec := "clockEnds", apart := false, narrowed := true }
def ClockEndsUptoSaid : Prop := clockEndsUptoRow.holds Try.pinned (OpenSpec.upto clockEndsSpec)

end Rows
end Go.Proofs.Ytmhpclmfacejhaa
