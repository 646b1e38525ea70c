/- ClockDrifts holds: for every input the law's call returns true and its arguments read as before; out of the pure statement Pure.ClockDrifts and the walk of burgagelaw16_ClockDrifts. -/
import Derived.Test.YtmhpclmfacejhaaRows
import Derived.Test.YtmhpclmfacejhaaPCx8
import Derived.Test.YtmhpclmfacejhaaPureClockDrifts
import Derived.Test.YtmhpclmfacejhaaOpn
import Derived.WalkKit
import Derived.ProofKit
import Derived.OpenShut
import Derived.ShutString
import Derived.ChangeOld
import Derived.Below
import Derived.SizedLaws
namespace Go.Proofs.Ytmhpclmfacejhaa.clockDrifts
open Go.ChangeShapes Go.WideShapes Go.ChangeAt Go.RowKit Go.Proofs.Ytmhpclmfacejhaa.PC Go.Proofs.YtmhpclmfacejhaaW.PrintWords Go.Proofs.Ytmhpclmfacejhaa.Opn
open Go.ChangeMaps (open_string shut_string)
set_option linter.unusedVariables false
set_option linter.unusedSimpArgs false
theorem own : ownKnob Try.prog.godebug = none := by kernel_rfl
theorem laidOut : laidOutB Try.prog = true := by kernel_rfl
theorem o38 : Opn Try.prog 38 (Kd.int .i8) (fun x : Int => (Lit.int .i8 x).wf = true) := Opn.int Try.underlying38 (by kernel_rfl)
theorem o44 : Opn Try.prog 44 k44 (fun x : S44 => ((Lit.int .i8 x.f0).wf = true) ∧ ((Lit.int .i8 x.f1).wf = true)) := Opn.array Try.underlying44 (OpnA.cons (by decide) o38 (OpnA.one (by decide) o38)) (fun x : S44 => (x.f0, x.f1)) (fun p => ⟨p.1, p.2⟩) (fun _ => rfl) (by kernel_rfl)
set_option maxRecDepth 100000 in
theorem lifted (os : Os) (started : os.Started) (H : Type) (enc : TypeId × Value → H) :
    ReturnsInHanded {} Try.checked os 8 .any (Rows.clockDriftsSpec.pre6 enc Try.prog Try.f8 Rows.clockDriftsRow.domain false) (Rows.clockDriftsSpec.post enc Try.prog Try.f8 false true false false) := by
  refine returnsInHanded_of_change_sized (C := Try.checked) own started (by kernel_rfl) Try.func8
    (ChangeSpec.witness6 (enc := enc) (C := Try.checked) false ⟨#[], #[.int .u8 0, .agg #[.int .i8 0, .int .i8 0], .int .i64 0], []⟩ 8 (by kernel_rfl) (by kernel_rfl) (by kernel_rfl) (by kernel_rfl)) ?_
  intro W base args ds gs before hval0 hW hcnd hsz0 _
  have hsz : (DataW.weightsEach Try.prog (Try.f8.params.toList ++ Rows.clockDriftsSpec.plain.varTypes Try.prog) (ds ++ gs)).all (· ≤ reachBytes) = true := hsz0
  have hval : ∀ (j : Nat) t v, Try.f8.params[j]? = some t → args[j]? = some v → Value.okWide Try.prog W .any base t v := hval0
  have hW' := hW
  obtain ⟨p, q, hA0, hV, rfl, hfz, hnd⟩ := hW
  have hA : DataW.TrodAll enc Try.prog W 0 (fun _ => true) true Try.f8.params.toList args.toList ds p := hA0
  rw [Try.params8] at hA hval hsz
  obtain ⟨v0, vs0, d0, ds0, p0, q0, hargs, rfl, rfl, h0, r0⟩ := trodAll_cons hA
  obtain ⟨v1, vs1, d1, ds1, p1, q1, rfl, rfl, rfl, h1, r1⟩ := trodAll_cons r0
  obtain ⟨v2, vs2, d2, ds2, p2, q2, rfl, rfl, rfl, h2, r2⟩ := trodAll_cons r1
  obtain ⟨rfl, rfl, rfl⟩ := trodAll_nil r2
  obtain rfl : args = #[v0, v1, v2] := by cases args; simp_all
  obtain ⟨rfl, rfl⟩ := trodVars_none hV
  obtain ⟨a0, rfl, rfl, rfl, w0⟩ := open_int Try.underlying5 (hval 0 5 v0 rfl rfl) h0
  have lt1 : ∀ x ∈ p1, x.block < W.heap.size := by obtain ⟨m, hm⟩ := h1; exact DataW.trod_lt m _ _ _ hm
  obtain ⟨x1, K1, w1⟩ := o44.arg hsz (j := 1) (t := 44) rfl rfl h1
  obtain ⟨cs1, rfl⟩ := okWide_array Try.underlying44 (hval 1 44 v1 rfl rfl)
  obtain ⟨cs1⟩ := cs1
  obtain e1 := k44_open K1
  replace e1 : cs1 = [.int .i8 x1.f0, .int .i8 x1.f1] := e1
  subst e1
  obtain ⟨a2, rfl, rfl, rfl, w2⟩ := open_int Try.underlying3 (hval 2 3 v2 rfl rfl) h2
  have k1 := h1
  clear hA0 hval0 hsz0 hsz
  obtain ⟨k, h⟩ := Pure.ClockDrifts a0 x1.f0 x1.f1 a2 w0 w1 w2
  refine (burgagelaw16_ClockDrifts.calls k a0 x1.f0 x1.f1 a2 true W  rfl h).mono fun e W' ⟨he, bel0⟩ => ?_
  have bel : Below W.heap.size W W' := bel0
  subst he
  exact ⟨_, rfl, _, _, _, [], _, [], hW', trodAll_mk1 (shut_bool Try.underlying4 _), (trodAll_cons_mk (shut_int Try.underlying5 w0) (trodAll_cons_mk (Below.trod laidOut (by kernel_rfl) (of_decide_eq_true (by kernel_rfl)) k1 bel lt1) (trodAll_cons_mk (shut_int Try.underlying3 w2) trodAll_mk0))), rfl, bel.frame _, fun h => by cases h⟩
theorem over : Rows.clockDriftsRow.holds Try.pinned (OpenSpec.ofChange Rows.clockDriftsSpec) :=
  OpenClaim.holds_of_wide 8 Try.f8 rfl rfl rfl rfl rfl rfl rfl ⟨rfl, rfl, rfl, rfl, rfl⟩ rfl rfl rfl rfl rfl (by kernel_rfl) Try.func8 (by kernel_rfl)
    (of_decide_eq_true (by kernel_rfl)) (by unfold Func.isWrapper; first | (rw [if_pos (by decide +kernel)]; kernel_rfl) | (rw [if_neg (by decide +kernel)]; exact ⟨rfl, rfl⟩))
    (fun os started H enc _ => lifted os started H enc)
theorem proved : Rows.ClockDriftsSaid := over
#print axioms proved
end Go.Proofs.Ytmhpclmfacejhaa.clockDrifts
namespace Go.Proofs.Ytmhpclmfacejhaa
/-- The row, under a short name, for the claim. -/
theorem clockDrifts_holds : Rows.ClockDriftsSaid := clockDrifts.proved
end Go.Proofs.Ytmhpclmfacejhaa
