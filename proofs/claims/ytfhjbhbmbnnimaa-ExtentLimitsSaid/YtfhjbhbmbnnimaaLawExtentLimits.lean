/- ExtentLimits holds: for every input the law's call returns true and its arguments read as before; out of the pure statement Pure.ExtentLimits and the walk of l08_ExtentLimits. -/
import Derived.Test.YtfhjbhbmbnnimaaRows
import Derived.Test.YtfhjbhbmbnnimaaPEx18
import Derived.Test.YtfhjbhbmbnnimaaPureExtentLimits
import Derived.Test.YtfhjbhbmbnnimaaOpn
import Derived.WalkKit
import Derived.ProofKit
import Derived.OpenShut
import Derived.ShutString
import Derived.ChangeOld
import Derived.Below
import Derived.SizedLaws
namespace Go.Proofs.Ytfhjbhbmbnnimaa.extentLimits
open Go.ChangeShapes Go.WideShapes Go.ChangeAt Go.RowKit Go.Proofs.Ytfhjbhbmbnnimaa.PE Go.Proofs.YtfhjbhbmbnnimaaW.PrintWords Go.Proofs.Ytfhjbhbmbnnimaa.Opn
open Go.ChangeMaps (open_string shut_string)
set_option linter.unusedVariables false
set_option linter.unusedSimpArgs false
theorem own : ownKnob Try.prog.godebug = none := by kernel_rfl
theorem laidOut : laidOutB Try.prog = true := by kernel_rfl
theorem o3 : Opn Try.prog 3 (Kd.int .i64) (fun x : Int => (Lit.int .i64 x).wf = true) := Opn.int Try.underlying3 (by kernel_rfl)
theorem o58 : Opn Try.prog 58 k58 (fun x : S58 => ((Lit.int .i64 x.f0).wf = true) ∧ (((Lit.int .i64 x.f1).wf = true) ∧ ((Lit.int .i64 x.f2).wf = true))) := Opn.struct Try.underlying58 (OpnL.cons rfl o3 (OpnL.cons rfl o3 (OpnL.one rfl o3))) (fun x : S58 => (x.f0, x.f1, x.f2)) (fun p => ⟨p.1, p.2.1, p.2.2⟩) (fun _ => rfl) (by kernel_rfl)
set_option maxRecDepth 100000 in
theorem lifted (os : Os) (started : os.Started) (H : Type) (enc : TypeId × Value → H) :
  ReturnsInHanded {} Try.checked os 7 .any (Rows.extentLimitsSpec.pre6 enc Try.prog Try.f7 Rows.extentLimitsRow.domain false) (Rows.extentLimitsSpec.post enc Try.prog Try.f7 false true false false) := by
 refine returnsInHanded_of_change_sized (C := Try.checked) own started (by kernel_rfl) Try.func7
  (ChangeSpec.witness6 (enc := enc) (C := Try.checked) false ⟨#[], #[.agg #[.int .i64 0, .int .i64 0, .int .i64 0], .int .i64 0, .int .i64 0], []⟩ 8 (by kernel_rfl) (by kernel_rfl) (by kernel_rfl) (by kernel_rfl)) ?_
 intro W base args ds gs before hval0 hW hcnd hsz0 _
 have hsz : (DataW.weightsEach Try.prog (Try.f7.params.toList ++ Rows.extentLimitsSpec.plain.varTypes Try.prog) (ds ++ gs)).all (· ≤ reachBytes) = true := hsz0
 have hval : ∀ (j : Nat) t v, Try.f7.params[j]? = some t → args[j]? = some v → Value.okWide Try.prog W .any base t v := hval0
 have hW' := hW
 obtain ⟨p, q, hA0, hV, rfl, hfz, hnd⟩ := hW
 have hA : DataW.TrodAll enc Try.prog W 0 (fun _ => true) true Try.f7.params.toList args.toList ds p := hA0
 rw [Try.params7] at hA hval hsz
 obtain ⟨v0, vs0, d0, ds0, p0, q0, hargs, rfl, rfl, h0, r0⟩ := trodAll_cons hA
 obtain ⟨v1, vs1, d1, ds1, p1, q1, rfl, rfl, rfl, h1, r1⟩ := trodAll_cons r0
 obtain ⟨v2, vs2, d2, ds2, p2, q2, rfl, rfl, rfl, h2, r2⟩ := trodAll_cons r1
 obtain ⟨rfl, rfl, rfl⟩ := trodAll_nil r2
 obtain rfl : args = #[v0, v1, v2] := by cases args; simp_all
 obtain ⟨rfl, rfl⟩ := trodVars_none hV
 have lt0 : ∀ x ∈ p0, x.block < W.heap.size := by obtain ⟨m, hm⟩ := h0; exact DataW.trod_lt m _ _ _ hm
 obtain ⟨x0, K0, w0⟩ := o58.arg hsz (j := 0) (t := 58) rfl rfl h0
 obtain ⟨cs0, rfl, _⟩ := okWide_struct Try.underlying58 (hval 0 58 v0 rfl rfl)
 obtain ⟨cs0⟩ := cs0
 obtain e0 := k58_open K0
 replace e0 : cs0 = [.int .i64 x0.f0, .int .i64 x0.f1, .int .i64 x0.f2] := e0
 subst e0
 obtain ⟨a1, rfl, rfl, rfl, w1⟩ := open_int Try.underlying3 (hval 1 3 v1 rfl rfl) h1
 obtain ⟨a2, rfl, rfl, rfl, w2⟩ := open_int Try.underlying3 (hval 2 3 v2 rfl rfl) h2
 have k0 := h0
 clear hA0 hval0 hsz0 hsz
 obtain ⟨k, h⟩ := Pure.ExtentLimits x0.f0 x0.f1 x0.f2 a1 a2 w0 w1 w2
 refine (l08_ExtentLimits.calls k x0.f0 x0.f1 x0.f2 a1 a2 true W  rfl h).mono fun e W' ⟨he, bel0⟩ => ?_
 have bel : Below W.heap.size W W' := bel0
 subst he
 exact ⟨_, rfl, _, _, _, [], _, [], hW', trodAll_mk1 (shut_bool Try.underlying4 _), (trodAll_cons_mk (Below.trod laidOut (by kernel_rfl) (of_decide_eq_true (by kernel_rfl)) k0 bel lt0) (trodAll_cons_mk (shut_int Try.underlying3 w1) (trodAll_cons_mk (shut_int Try.underlying3 w2) trodAll_mk0))), rfl, bel.frame _, fun h => by cases h⟩
theorem over : Rows.extentLimitsRow.holds Try.pinned (OpenSpec.ofChange Rows.extentLimitsSpec) :=
 OpenClaim.holds_of_wide 7 Try.f7 rfl rfl rfl rfl rfl rfl rfl ⟨rfl, rfl, rfl, rfl, rfl⟩ rfl rfl rfl rfl rfl (by kernel_rfl) Try.func7 (by kernel_rfl)
  (of_decide_eq_true (by kernel_rfl)) (by unfold Func.isWrapper; first | (rw [if_pos (by decide +kernel)]; kernel_rfl) | (rw [if_neg (by decide +kernel)]; exact ⟨rfl, rfl⟩))
  (fun os started H enc _ => lifted os started H enc)
theorem proved : Rows.ExtentLimitsSaid := over
#print axioms proved
end Go.Proofs.Ytfhjbhbmbnnimaa.extentLimits
namespace Go.Proofs.Ytfhjbhbmbnnimaa
/-- The row, under a short name, for the claim. -/
theorem extentLimits_holds : Rows.ExtentLimitsSaid := extentLimits.proved
end Go.Proofs.Ytfhjbhbmbnnimaa
