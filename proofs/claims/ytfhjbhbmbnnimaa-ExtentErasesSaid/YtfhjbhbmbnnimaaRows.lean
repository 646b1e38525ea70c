/-
  No cell of these rows narrows 'for every input' (looked for: loops, veiled, ifaces, maps, wideKeys, modest, calm, conditions, laid).
  DERIVED. THE GIVEN ROWS OF THIS SEAT. 7 by the template 'for every input the law returns true; each argument reads behind the call as it read before'; 0 by the template 'total and deterministic' (their statements: YtfhjbhbmbnnimaaTotals.lean).
  GIVEN WITH THE SEED: the statements are not yours to turn. If you find one false, say at which input.
  Laid BY PROGRAM, IN A SANDBOX (cutbox-rows.mjs): the forced cells as the released guide's own fill.sh prints them over the translation d053f23988b4b330… (all of the seat's roots in one cut). By AI agents, Wed Nov 11 2026. No macro, syntax, notation, axiom, sorry.
-/
import Derived.Test.YtfhjbhbmbnnimaaChecked
import GoSem.Claim
import GoSem.ClaimJoined
import GoSem.ClaimMapViews
import Derived.JoinedTies
import Derived.KernelRfl
namespace Go.Proofs.Ytfhjbhbmbnnimaa
/- THE CELL 'sum', in the pinned program and in every row, IS THE sha256 OF THE DUMP (.gsa) THAT YtfhjbhbmbnnimaaProg.lean LOADS. Nothing in Lean hashes anything: it is a label: what it is worth is what the hold of that sum in a sandbox is worth. -/
noncomputable def Try.pinned : Pinned := { name := "ytfhjbhbmbnnimaa", sum := "d053f23988b4b330217d71b30e4585aab8af1c316ef78d958e57d2caede966f9", checked := Try.checked }
namespace Rows
def none {H : Type} : Left H := { results := [], args := [] }

/-- 'burgagelaw08.ExtentParts': WHATEVER THE INPUT: true; the input reads as it did. -/
def extentPartsSpec : ChangeSpec := { name := "extentParts", fn := fun _ => fun
  | [d1, d2, d3] => { results := [.lit (.bool true)], args := [d1, d2, d3] }
  | _ => none }
def extentPartsRow : OpenClaim := { program := "ytfhjbhbmbnnimaa", sum := "d053f23988b4b330217d71b30e4585aab8af1c316ef78d958e57d2caede966f9", func := "burgage/burgagelaw08.ExtentParts", spec := "extentParts", unfollowed := true, recurses := true, apart := false }
def ExtentPartsSaid : Prop := extentPartsRow.holds Try.pinned (OpenSpec.ofChange extentPartsSpec)

/-- ITS FALSE NEIGHBOUR: 'it returns false'. Refute it at one input. -/
def extentPartsWrong : ChangeSpec := { name := "extentParts", fn := fun _ => fun
  | [d1, d2, d3] => { results := [.lit (.bool false)], args := [d1, d2, d3] }
  | _ => none }
def ExtentPartsWrongFalsely : Prop := extentPartsRow.holds Try.pinned (OpenSpec.ofChange extentPartsWrong)

/-- 'burgagelaw08.ExtentPuts': WHATEVER THE INPUT: true; the input reads as it did. -/
def extentPutsSpec : ChangeSpec := { name := "extentPuts", fn := fun _ => fun
  | [d1, d2] => { results := [.lit (.bool true)], args := [d1, d2] }
  | _ => none }
def extentPutsRow : OpenClaim := { program := "ytfhjbhbmbnnimaa", sum := "d053f23988b4b330217d71b30e4585aab8af1c316ef78d958e57d2caede966f9", func := "burgage/burgagelaw08.ExtentPuts", spec := "extentPuts", unfollowed := true, recurses := true, apart := false }
def ExtentPutsSaid : Prop := extentPutsRow.holds Try.pinned (OpenSpec.ofChange extentPutsSpec)

/-- ITS FALSE NEIGHBOUR: 'it returns false'. Refute it at one input. -/
def extentPutsWrong : ChangeSpec := { name := "extentPuts", fn := fun _ => fun
  | [d1, d2] => { results := [.lit (.bool false)], args := [d1, d2] }
  | _ => none }
def ExtentPutsWrongFalsely : Prop := extentPutsRow.holds Try.pinned (OpenSpec.ofChange extentPutsWrong)

/-- 'burgagelaw08.ExtentCuts': WHATEVER THE INPUT: true; the input reads as it did. -/
def extentCutsSpec : ChangeSpec := { name := "extentCuts", fn := fun _ => fun
  | [d1, d2] => { results := [.lit (.bool true)], args := [d1, d2] }
  | _ => none }
def extentCutsRow : OpenClaim := { program := "ytfhjbhbmbnnimaa", sum := "d053f23988b4b330217d71b30e4585aab8af1c316ef78d958e57d2caede966f9", func := "burgage/burgagelaw08.ExtentCuts", spec := "extentCuts", unfollowed := true, recurses := true, apart := false }
def ExtentCutsSaid : Prop := extentCutsRow.holds Try.pinned (OpenSpec.ofChange extentCutsSpec)

/-- ITS FALSE NEIGHBOUR: 'it returns false'. Refute it at one input. -/
def extentCutsWrong : ChangeSpec := { name := "extentCuts", fn := fun _ => fun
  | [d1, d2] => { results := [.lit (.bool false)], args := [d1, d2] }
  | _ => none }
def ExtentCutsWrongFalsely : Prop := extentCutsRow.holds Try.pinned (OpenSpec.ofChange extentCutsWrong)

/-- 'burgagelaw08.ExtentBytes': WHATEVER THE INPUT: true; the input reads as it did. -/
def extentBytesSpec : ChangeSpec := { name := "extentBytes", fn := fun _ => fun
  | [d1, d2] => { results := [.lit (.bool true)], args := [d1, d2] }
  | _ => none }
def extentBytesRow : OpenClaim := { program := "ytfhjbhbmbnnimaa", sum := "d053f23988b4b330217d71b30e4585aab8af1c316ef78d958e57d2caede966f9", func := "burgage/burgagelaw08.ExtentBytes", spec := "extentBytes", unfollowed := true, recurses := true, apart := false }
def ExtentBytesSaid : Prop := extentBytesRow.holds Try.pinned (OpenSpec.ofChange extentBytesSpec)

/-- ITS FALSE NEIGHBOUR: 'it returns false'. Refute it at one input. -/
def extentBytesWrong : ChangeSpec := { name := "extentBytes", fn := fun _ => fun
  | [d1, d2] => { results := [.lit (.bool false)], args := [d1, d2] }
  | _ => none }
def ExtentBytesWrongFalsely : Prop := extentBytesRow.holds Try.pinned (OpenSpec.ofChange extentBytesWrong)

/-- 'burgagelaw08.ExtentLimits': WHATEVER THE INPUT: true; the input reads as it did. -/
def extentLimitsSpec : ChangeSpec := { name := "extentLimits", fn := fun _ => fun
  | [d1, d2, d3] => { results := [.lit (.bool true)], args := [d1, d2, d3] }
  | _ => none }
def extentLimitsRow : OpenClaim := { program := "ytfhjbhbmbnnimaa", sum := "d053f23988b4b330217d71b30e4585aab8af1c316ef78d958e57d2caede966f9", func := "burgage/burgagelaw08.ExtentLimits", spec := "extentLimits", unfollowed := true, recurses := true, apart := false }
def ExtentLimitsSaid : Prop := extentLimitsRow.holds Try.pinned (OpenSpec.ofChange extentLimitsSpec)

/-- ITS FALSE NEIGHBOUR: 'it returns false'. Refute it at one input. -/
def extentLimitsWrong : ChangeSpec := { name := "extentLimits", fn := fun _ => fun
  | [d1, d2, d3] => { results := [.lit (.bool false)], args := [d1, d2, d3] }
  | _ => none }
def ExtentLimitsWrongFalsely : Prop := extentLimitsRow.holds Try.pinned (OpenSpec.ofChange extentLimitsWrong)

/-- 'burgagelaw08.ExtentForms': WHATEVER THE INPUT: true; the input reads as it did. -/
def extentFormsSpec : ChangeSpec := { name := "extentForms", fn := fun _ => fun
  | [d1, d2] => { results := [.lit (.bool true)], args := [d1, d2] }
  | _ => none }
def extentFormsRow : OpenClaim := { program := "ytfhjbhbmbnnimaa", sum := "d053f23988b4b330217d71b30e4585aab8af1c316ef78d958e57d2caede966f9", func := "burgage/burgagelaw08.ExtentForms", spec := "extentForms", unfollowed := true, recurses := true, apart := false }
def ExtentFormsSaid : Prop := extentFormsRow.holds Try.pinned (OpenSpec.ofChange extentFormsSpec)

/-- ITS FALSE NEIGHBOUR: 'it returns false'. Refute it at one input. -/
def extentFormsWrong : ChangeSpec := { name := "extentForms", fn := fun _ => fun
  | [d1, d2] => { results := [.lit (.bool false)], args := [d1, d2] }
  | _ => none }
def ExtentFormsWrongFalsely : Prop := extentFormsRow.holds Try.pinned (OpenSpec.ofChange extentFormsWrong)

/-- 'burgagelaw08.ExtentErases': WHATEVER THE INPUT: true; the input reads as it did. -/
def extentErasesSpec : ChangeSpec := { name := "extentErases", fn := fun _ => fun
  | [d1, d2] => { results := [.lit (.bool true)], args := [d1, d2] }
  | _ => none }
def extentErasesRow : OpenClaim := { program := "ytfhjbhbmbnnimaa", sum := "d053f23988b4b330217d71b30e4585aab8af1c316ef78d958e57d2caede966f9", func := "burgage/burgagelaw08.ExtentErases", spec := "extentErases", unfollowed := true, recurses := true, apart := false }
def ExtentErasesSaid : Prop := extentErasesRow.holds Try.pinned (OpenSpec.ofChange extentErasesSpec)

/-- ITS FALSE NEIGHBOUR: 'it returns false'. Refute it at one input. -/
def extentErasesWrong : ChangeSpec := { name := "extentErases", fn := fun _ => fun
  | [d1, d2] => { results := [.lit (.bool false)], args := [d1, d2] }
  | _ => none }
def ExtentErasesWrongFalsely : Prop := extentErasesRow.holds Try.pinned (OpenSpec.ofChange extentErasesWrong)

/- THE SECOND FORM. 'bulk': how many values and letters a reading holds, each counted each time it is reached (what is shared counts as often as it is met; a slice's spare places count too). A statement '..UptoSaid' is the law's where the arguments, and the package variables that the reading takes, are together of bulk at most 1048576: NARROWER than '..Said'. Prove '..Said' where nothing that the law and all that it calls make is longer than what came in: it says more and counts as full. Else prove '..UptoSaid'. A law counts once. -/
mutual
def uptoBulk {H : Type} : DataW H → Nat
  | .lit (.string bytes) => bytes.length + 1
  | .lit _ => 1
  | .nil => 1
  | .ptr d => uptoBulk d + 1
  | .slice elems spare => uptoBulkAll elems + uptoBulkAll spare + 1
  | .agg parts => uptoBulkAll parts + 1
  | .iface _ d => uptoBulk d + 1
  | .map entries => uptoBulkEntries entries + 1
  | .held _ => 1
def uptoBulkAll {H : Type} : List (DataW H) → Nat
  | [] => 0
  | d :: r => uptoBulk d + uptoBulkAll r
def uptoBulkEntries {H : Type} : List (Lit × DataW H) → Nat
  | [] => 0
  | x :: r => uptoBulkEntry x + uptoBulkEntries r
def uptoBulkEntry {H : Type} : Lit × DataW H → Nat
  | (.string bytes, d) => bytes.length + uptoBulk d + 1
  | (_, d) => uptoBulk d + 1
 end
def uptoSmall : (H : Type) → List (DataW H) → Bool := fun _ ds => decide (uptoBulkAll ds ≤ 1048576)
def OpenSpec.upto (s : _root_.Go.ChangeSpec) : _root_.Go.OpenSpec := { _root_.Go.OpenSpec.ofChange s with cond := some uptoSmall }

/-- 'burgagelaw08.ExtentParts', WHERE WHAT IT READS IS OF BULK AT MOST 1048576: true; the input reads as it did. -/
def extentPartsUptoRow : OpenClaim := { program := "ytfhjbhbmbnnimaa", sum := "d053f23988b4b330217d71b30e4585aab8af1c316ef78d958e57d2caede966f9", func := "burgage/burgagelaw08.ExtentParts", spec := "extentParts", unfollowed := true, recurses := true, apart := false, narrowed := true }
def ExtentPartsUptoSaid : Prop := extentPartsUptoRow.holds Try.pinned (OpenSpec.upto extentPartsSpec)

/-- 'burgagelaw08.ExtentPuts', WHERE WHAT IT READS IS OF BULK AT MOST 1048576: true; the input reads as it did. -/
def extentPutsUptoRow : OpenClaim := { program := "ytfhjbhbmbnnimaa", sum := "d053f23988b4b330217d71b30e4585aab8af1c316ef78d958e57d2caede966f9", func := "burgage/burgagelaw08.ExtentPuts", spec := "extentPuts", unfollowed := true, recurses := true, apart := false, narrowed := true }
def ExtentPutsUptoSaid : Prop := extentPutsUptoRow.holds Try.pinned (OpenSpec.upto extentPutsSpec)

/-- 'burgagelaw08.ExtentCuts', WHERE WHAT IT READS IS OF BULK AT MOST 1048576: true; the input reads as it did. -/
def extentCutsUptoRow : OpenClaim := { program := "ytfhjbhbmbnnimaa", sum := "d053f23988b4b330217d71b30e4585aab8af1c316ef78d958e57d2caede966f9", func := "burgage/burgagelaw08.ExtentCuts", spec := "extentCuts", unfollowed := true, recurses := true, apart := false, narrowed := true }
def ExtentCutsUptoSaid : Prop := extentCutsUptoRow.holds Try.pinned (OpenSpec.upto extentCutsSpec)

/-- 'burgagelaw08.ExtentBytes', WHERE WHAT IT READS IS OF BULK AT MOST 1048576: true; the input reads as it did. -/
def extentBytesUptoRow : OpenClaim := { program := "ytfhjbhbmbnnimaa", sum := "d053f23988b4b330217d71b30e4585aab8af1c316ef78d958e57d2caede966f9", func := "burgage/burgagelaw08.ExtentBytes", spec := "extentBytes", unfollowed := true, recurses := true, apart := false, narrowed := true }
def ExtentBytesUptoSaid : Prop := extentBytesUptoRow.holds Try.pinned (OpenSpec.upto extentBytesSpec)

/-- 'burgagelaw08.ExtentLimits', WHERE WHAT IT READS IS OF BULK AT MOST 1048576: true; the input reads as it did. -/
def extentLimitsUptoRow : OpenClaim := { program := "ytfhjbhbmbnnimaa", sum := "d053f23988b4b330217d71b30e4585aab8af1c316ef78d958e57d2caede966f9", func := "burgage/burgagelaw08.ExtentLimits", spec := "extentLimits", unfollowed := true, recurses := true, apart := false, narrowed := true }
def ExtentLimitsUptoSaid : Prop := extentLimitsUptoRow.holds Try.pinned (OpenSpec.upto extentLimitsSpec)

/-- 'burgagelaw08.ExtentForms', WHERE WHAT IT READS IS OF BULK AT MOST 1048576: true; the input reads as it did. -/
def extentFormsUptoRow : OpenClaim := { program := "ytfhjbhbmbnnimaa", sum := "d053f23988b4b330217d71b30e4585aab8af1c316ef78d958e57d2caede966f9", func := "burgage/burgagelaw08.ExtentForms", spec := "extentForms", unfollowed := true, recurses := true, apart := false, narrowed := true }
def ExtentFormsUptoSaid : Prop := extentFormsUptoRow.holds Try.pinned (OpenSpec.upto extentFormsSpec)

/-- 'burgagelaw08.ExtentErases', WHERE WHAT IT READS IS OF BULK AT MOST 1048576: true; the input reads as it did. -/
def extentErasesUptoRow : OpenClaim := { program := "ytfhjbhbmbnnimaa", sum := "d053f23988b4b330217d71b30e4585aab8af1c316ef78d958e57d2caede966f9", func := "burgage/burgagelaw08.ExtentErases", spec := "extentErases", unfollowed := true, recurses := true, apart := false, narrowed := true }
def ExtentErasesUptoSaid : Prop := extentErasesUptoRow.holds Try.pinned (OpenSpec.upto extentErasesSpec)

end Rows
end Go.Proofs.Ytfhjbhbmbnnimaa
