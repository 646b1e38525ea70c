/-
  No cell of these rows narrows 'for every input' (looked for: loops, veiled, ifaces, maps, wideKeys, modest, calm, conditions, laid).
  DERIVED. THE GIVEN ROWS OF THIS SEAT. 7 by the template 'for every input the law returns true; each argument reads behind the call as it read before'; 0 by the template 'total and deterministic' (their statements: YtebggajdojdebaaTotals.lean).
  GIVEN WITH THE SEED: the statements are not yours to turn. If you find one false, say at which input.
  Laid BY PROGRAM, IN A SANDBOX (cutbox-rows.mjs): the forced cells as the released guide's own fill.sh prints them over the translation 31bdcaefc5cb9594… (all of the seat's roots in one cut). By AI agents, Wed Nov 11 2026. No macro, syntax, notation, axiom, sorry.
-/
import Derived.Test.YtebggajdojdebaaChecked
import GoSem.Claim
import GoSem.ClaimJoined
import GoSem.ClaimMapViews
import Derived.JoinedTies
import Derived.KernelRfl
namespace Go.Proofs.Ytebggajdojdebaa
/- THE CELL 'sum', in the pinned program and in every row, IS THE sha256 OF THE DUMP (.gsa) THAT YtebggajdojdebaaProg.lean LOADS. Nothing in Lean hashes anything: it is a label: what it is worth is what the hold of that sum in a sandbox is worth. -/
noncomputable def Try.pinned : Pinned := { name := "ytebggajdojdebaa", sum := "31bdcaefc5cb95946d2696fe0da5db2905dc09f211733357b7a539bf1abc0d84", checked := Try.checked }
namespace Rows
def none {H : Type} : Left H := { results := [], args := [] }

/-- 'burgagelaw11.SpanMatchesReference': WHATEVER THE INPUT: true; the input reads as it did. -/
def spanMatchesReferenceSpec : ChangeSpec := { name := "spanMatchesReference", fn := fun _ => fun
  | [d1, d2, d3] => { results := [.lit (.bool true)], args := [d1, d2, d3] }
  | _ => none }
def spanMatchesReferenceRow : OpenClaim := { program := "ytebggajdojdebaa", sum := "31bdcaefc5cb95946d2696fe0da5db2905dc09f211733357b7a539bf1abc0d84", func := "burgage/burgagelaw11.SpanMatchesReference", spec := "spanMatchesReference", unfollowed := true, recurses := true, apart := false }
def SpanMatchesReferenceSaid : Prop := spanMatchesReferenceRow.holds Try.pinned (OpenSpec.ofChange spanMatchesReferenceSpec)

/-- ITS FALSE NEIGHBOUR: 'it returns false'. Refute it at one input. -/
def spanMatchesReferenceWrong : ChangeSpec := { name := "spanMatchesReference", fn := fun _ => fun
  | [d1, d2, d3] => { results := [.lit (.bool false)], args := [d1, d2, d3] }
  | _ => none }
def SpanMatchesReferenceWrongFalsely : Prop := spanMatchesReferenceRow.holds Try.pinned (OpenSpec.ofChange spanMatchesReferenceWrong)

/-- 'burgagelaw11.SpanNumbers': WHATEVER THE INPUT: true; the input reads as it did. -/
def spanNumbersSpec : ChangeSpec := { name := "spanNumbers", fn := fun _ => fun
  | [d1, d2] => { results := [.lit (.bool true)], args := [d1, d2] }
  | _ => none }
def spanNumbersRow : OpenClaim := { program := "ytebggajdojdebaa", sum := "31bdcaefc5cb95946d2696fe0da5db2905dc09f211733357b7a539bf1abc0d84", func := "burgage/burgagelaw11.SpanNumbers", spec := "spanNumbers", unfollowed := true, recurses := true, apart := false }
def SpanNumbersSaid : Prop := spanNumbersRow.holds Try.pinned (OpenSpec.ofChange spanNumbersSpec)

/-- ITS FALSE NEIGHBOUR: 'it returns false'. Refute it at one input. -/
def spanNumbersWrong : ChangeSpec := { name := "spanNumbers", fn := fun _ => fun
  | [d1, d2] => { results := [.lit (.bool false)], args := [d1, d2] }
  | _ => none }
def SpanNumbersWrongFalsely : Prop := spanNumbersRow.holds Try.pinned (OpenSpec.ofChange spanNumbersWrong)

/-- 'burgagelaw11.SpanSets': WHATEVER THE INPUT: true; the input reads as it did. -/
def spanSetsSpec : ChangeSpec := { name := "spanSets", fn := fun _ => fun
  | [d1, d2] => { results := [.lit (.bool true)], args := [d1, d2] }
  | _ => none }
def spanSetsRow : OpenClaim := { program := "ytebggajdojdebaa", sum := "31bdcaefc5cb95946d2696fe0da5db2905dc09f211733357b7a539bf1abc0d84", func := "burgage/burgagelaw11.SpanSets", spec := "spanSets", unfollowed := true, recurses := true, apart := false }
def SpanSetsSaid : Prop := spanSetsRow.holds Try.pinned (OpenSpec.ofChange spanSetsSpec)

/-- ITS FALSE NEIGHBOUR: 'it returns false'. Refute it at one input. -/
def spanSetsWrong : ChangeSpec := { name := "spanSets", fn := fun _ => fun
  | [d1, d2] => { results := [.lit (.bool false)], args := [d1, d2] }
  | _ => none }
def SpanSetsWrongFalsely : Prop := spanSetsRow.holds Try.pinned (OpenSpec.ofChange spanSetsWrong)

/-- 'burgagelaw11.SpanLaws': WHATEVER THE INPUT: true; the input reads as it did. -/
def spanLawsSpec : ChangeSpec := { name := "spanLaws", fn := fun _ => fun
  | [d1, d2, d3] => { results := [.lit (.bool true)], args := [d1, d2, d3] }
  | _ => none }
def spanLawsRow : OpenClaim := { program := "ytebggajdojdebaa", sum := "31bdcaefc5cb95946d2696fe0da5db2905dc09f211733357b7a539bf1abc0d84", func := "burgage/burgagelaw11.SpanLaws", spec := "spanLaws", unfollowed := true, recurses := true, apart := false }
def SpanLawsSaid : Prop := spanLawsRow.holds Try.pinned (OpenSpec.ofChange spanLawsSpec)

/-- ITS FALSE NEIGHBOUR: 'it returns false'. Refute it at one input. -/
def spanLawsWrong : ChangeSpec := { name := "spanLaws", fn := fun _ => fun
  | [d1, d2, d3] => { results := [.lit (.bool false)], args := [d1, d2, d3] }
  | _ => none }
def SpanLawsWrongFalsely : Prop := spanLawsRow.holds Try.pinned (OpenSpec.ofChange spanLawsWrong)

/-- 'burgagelaw11.SpanCovers': WHATEVER THE INPUT: true; the input reads as it did. -/
def spanCoversSpec : ChangeSpec := { name := "spanCovers", fn := fun _ => fun
  | [d1, d2, d3] => { results := [.lit (.bool true)], args := [d1, d2, d3] }
  | _ => none }
def spanCoversRow : OpenClaim := { program := "ytebggajdojdebaa", sum := "31bdcaefc5cb95946d2696fe0da5db2905dc09f211733357b7a539bf1abc0d84", func := "burgage/burgagelaw11.SpanCovers", spec := "spanCovers", unfollowed := true, recurses := true, apart := false }
def SpanCoversSaid : Prop := spanCoversRow.holds Try.pinned (OpenSpec.ofChange spanCoversSpec)

/-- ITS FALSE NEIGHBOUR: 'it returns false'. Refute it at one input. -/
def spanCoversWrong : ChangeSpec := { name := "spanCovers", fn := fun _ => fun
  | [d1, d2, d3] => { results := [.lit (.bool false)], args := [d1, d2, d3] }
  | _ => none }
def SpanCoversWrongFalsely : Prop := spanCoversRow.holds Try.pinned (OpenSpec.ofChange spanCoversWrong)

/-- 'burgagelaw11.SpanTotals': WHATEVER THE INPUT: true; the input reads as it did. -/
def spanTotalsSpec : ChangeSpec := { name := "spanTotals", fn := fun _ => fun
  | [d1, d2] => { results := [.lit (.bool true)], args := [d1, d2] }
  | _ => none }
def spanTotalsRow : OpenClaim := { program := "ytebggajdojdebaa", sum := "31bdcaefc5cb95946d2696fe0da5db2905dc09f211733357b7a539bf1abc0d84", func := "burgage/burgagelaw11.SpanTotals", spec := "spanTotals", unfollowed := true, recurses := true, apart := false }
def SpanTotalsSaid : Prop := spanTotalsRow.holds Try.pinned (OpenSpec.ofChange spanTotalsSpec)

/-- ITS FALSE NEIGHBOUR: 'it returns false'. Refute it at one input. -/
def spanTotalsWrong : ChangeSpec := { name := "spanTotals", fn := fun _ => fun
  | [d1, d2] => { results := [.lit (.bool false)], args := [d1, d2] }
  | _ => none }
def SpanTotalsWrongFalsely : Prop := spanTotalsRow.holds Try.pinned (OpenSpec.ofChange spanTotalsWrong)

/-- 'burgagelaw11.SpanOrder': WHATEVER THE INPUT: true; the input reads as it did. -/
def spanOrderSpec : ChangeSpec := { name := "spanOrder", fn := fun _ => fun
  | [d1, d2, d3] => { results := [.lit (.bool true)], args := [d1, d2, d3] }
  | _ => none }
def spanOrderRow : OpenClaim := { program := "ytebggajdojdebaa", sum := "31bdcaefc5cb95946d2696fe0da5db2905dc09f211733357b7a539bf1abc0d84", func := "burgage/burgagelaw11.SpanOrder", spec := "spanOrder", unfollowed := true, recurses := true, apart := false }
def SpanOrderSaid : Prop := spanOrderRow.holds Try.pinned (OpenSpec.ofChange spanOrderSpec)

/-- ITS FALSE NEIGHBOUR: 'it returns false'. Refute it at one input. -/
def spanOrderWrong : ChangeSpec := { name := "spanOrder", fn := fun _ => fun
  | [d1, d2, d3] => { results := [.lit (.bool false)], args := [d1, d2, d3] }
  | _ => none }
def SpanOrderWrongFalsely : Prop := spanOrderRow.holds Try.pinned (OpenSpec.ofChange spanOrderWrong)

/- THE SECOND FORM. 'bulk': how many values and letters a reading holds, each counted each time it is reached (what is shared counts as often as it is met; a slice's spare places count too). A statement '..UptoSaid' is the law's where the arguments, and the package variables that the reading takes, are together of bulk at most 1048576: NARROWER than '..Said'. Prove '..Said' where nothing that the law and all that it calls make is longer than what came in: it says more and counts as full. Else prove '..UptoSaid'. A law counts once. -/
mutual
def uptoBulk {H : Type} : DataW H → Nat
  | .lit (.string bytes) => bytes.length + 1
  | .lit _ => 1
  | .nil => 1
  | .ptr d => uptoBulk d + 1
  | .slice elems spare => uptoBulkAll elems + uptoBulkAll spare + 1
  | .agg parts => uptoBulkAll parts + 1
  | .iface _ d => uptoBulk d + 1
  | .map entries => uptoBulkEntries entries + 1
  | .held _ => 1
def uptoBulkAll {H : Type} : List (DataW H) → Nat
  | [] => 0
  | d :: r => uptoBulk d + uptoBulkAll r
def uptoBulkEntries {H : Type} : List (Lit × DataW H) → Nat
  | [] => 0
  | x :: r => uptoBulkEntry x + uptoBulkEntries r
def uptoBulkEntry {H : Type} : Lit × DataW H → Nat
  | (.string bytes, d) => bytes.length + uptoBulk d + 1
  | (_, d) => uptoBulk d + 1
 end
def uptoSmall : (H : Type) → List (DataW H) → Bool := fun _ ds => decide (uptoBulkAll ds ≤ 1048576)
def OpenSpec.upto (s : _root_.Go.ChangeSpec) : _root_.Go.OpenSpec := { _root_.Go.OpenSpec.ofChange s with cond := some uptoSmall }

/-- 'burgagelaw11.SpanMatchesReference', WHERE WHAT IT READS IS OF BULK AT MOST 1048576: true; the input reads as it did. -/
def spanMatchesReferenceUptoRow : OpenClaim := { program := "ytebggajdojdebaa", sum := "31bdcaefc5cb95946d2696fe0da5db2905dc09f211733357b7a539bf1abc0d84", func := "burgage/burgagelaw11.SpanMatchesReference", spec := "spanMatchesReference", unfollowed := true, recurses := true, apart := false, narrowed := true }
def SpanMatchesReferenceUptoSaid : Prop := spanMatchesReferenceUptoRow.holds Try.pinned (OpenSpec.upto spanMatchesReferenceSpec)

/-- 'burgagelaw11.SpanNumbers', WHERE WHAT IT READS IS OF BULK AT MOST 1048576: true; the input reads as it did. -/
def spanNumbersUptoRow : OpenClaim := { program := "ytebggajdojdebaa", sum := "31bdcaefc5cb95946d2696fe0da5db2905dc09f211733357b7a539bf1abc0d84", func := "burgage/burgagelaw11.SpanNumbers", spec := "spanNumbers", unfollowed := true, recurses := true, apart := false, narrowed := true }
def SpanNumbersUptoSaid : Prop := spanNumbersUptoRow.holds Try.pinned (OpenSpec.upto spanNumbersSpec)

/-- 'burgagelaw11.SpanSets', WHERE WHAT IT READS IS OF BULK AT MOST 1048576: true; the input reads as it did. -/
def spanSetsUptoRow : OpenClaim := { program := "ytebggajdojdebaa", sum := "31bdcaefc5cb95946d2696fe0da5db2905dc09f211733357b7a539bf1abc0d84", func := "burgage/burgagelaw11.SpanSets", spec := "spanSets", unfollowed := true, recurses := true, apart := false, narrowed := true }
def SpanSetsUptoSaid : Prop := spanSetsUptoRow.holds Try.pinned (OpenSpec.upto spanSetsSpec)

/-- 'burgagelaw11.SpanLaws', WHERE WHAT IT READS IS OF BULK AT MOST 1048576: true; the input reads as it did. -/
def spanLawsUptoRow : OpenClaim := { program := "ytebggajdojdebaa", sum := "31bdcaefc5cb95946d2696fe0da5db2905dc09f211733357b7a539bf1abc0d84", func := "burgage/burgagelaw11.SpanLaws", spec := "spanLaws", unfollowed := true, recurses := true, apart := false, narrowed := true }
def SpanLawsUptoSaid : Prop := spanLawsUptoRow.holds Try.pinned (OpenSpec.upto spanLawsSpec)

/-- 'burgagelaw11.SpanCovers', WHERE WHAT IT READS IS OF BULK AT MOST 1048576: true; the input reads as it did. -/
def spanCoversUptoRow : OpenClaim := { program := "ytebggajdojdebaa", sum := "31bdcaefc5cb95946d2696fe0da5db2905dc09f211733357b7a539bf1abc0d84", func := "burgage/burgagelaw11.SpanCovers", spec := "spanCovers", unfollowed := true, recurses := true, apart := false, narrowed := true }
def SpanCoversUptoSaid : Prop := spanCoversUptoRow.holds Try.pinned (OpenSpec.upto spanCoversSpec)

/-- 'burgagelaw11.SpanTotals', WHERE WHAT IT READS IS OF BULK AT MOST 1048576: true; the input reads as it did. -/
def spanTotalsUptoRow : OpenClaim := { program := "ytebggajdojdebaa", sum := "31bdcaefc5cb95946d2696fe0da5db2905dc09f211733357b7a539bf1abc0d84", func := "burgage/burgagelaw11.SpanTotals", spec := "spanTotals", unfollowed := true, recurses := true, apart := false, narrowed := true }
def SpanTotalsUptoSaid : Prop := spanTotalsUptoRow.holds Try.pinned (OpenSpec.upto spanTotalsSpec)

/-- 'burgagelaw11.SpanOrder', WHERE WHAT IT READS IS OF BULK AT MOST 1048576: true; the input reads as it did. -/
def spanOrderUptoRow : OpenClaim := { program := "ytebggajdojdebaa", sum := "31bdcaefc5cb95946d2696fe0da5db2905dc09f211733357b7a539bf1abc0d84", func := "burgage/burgagelaw11.SpanOrder", spec := "spanOrder", unfollowed := true, recurses := true, apart := false, narrowed := true }
def SpanOrderUptoSaid : Prop := spanOrderUptoRow.holds Try.pinned (OpenSpec.upto spanOrderSpec)

end Rows
end Go.Proofs.Ytebggajdojdebaa
