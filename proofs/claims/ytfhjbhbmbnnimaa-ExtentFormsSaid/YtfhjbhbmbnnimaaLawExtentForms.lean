/- ExtentForms holds: for every input the law's call returns true and its arguments read as before; out of the pure statement Pure.ExtentForms and the walk of l08_ExtentForms. -/
import Derived.Test.YtfhjbhbmbnnimaaRows
import Derived.Test.YtfhjbhbmbnnimaaPEx19
import Derived.Test.YtfhjbhbmbnnimaaPureExtentForms
import Derived.Test.YtfhjbhbmbnnimaaOpn
import Derived.WalkKit
import Derived.ProofKit
import Derived.OpenShut
import Derived.ShutString
import Derived.ChangeOld
import Derived.Below
import Derived.SizedLaws
namespace Go.Proofs.Ytfhjbhbmbnnimaa.extentForms
open Go.ChangeShapes Go.WideShapes Go.ChangeAt Go.RowKit Go.Proofs.Ytfhjbhbmbnnimaa.PE Go.Proofs.YtfhjbhbmbnnimaaW.PrintWords Go.Proofs.Ytfhjbhbmbnnimaa.Opn
open Go.ChangeMaps (open_string shut_string)
set_option linter.unusedVariables false
set_option linter.unusedSimpArgs false
theorem own : ownKnob Try.prog.godebug = none := by kernel_rfl
theorem laidOut : laidOutB Try.prog = true := by kernel_rfl
theorem o5 : Opn Try.prog 5 (Kd.int .u8) (fun x : Int => (Lit.int .u8 x).wf = true) := Opn.int Try.underlying5 (by kernel_rfl)
theorem o37 : Opn Try.prog 37 k37 (fun x : S37 => ((Lit.int .u8 x.f0).wf = true) ∧ (((Lit.int .u8 x.f1).wf = true) ∧ ((Lit.int .u8 x.f2).wf = true))) := Opn.array Try.underlying37 (OpnA.cons (by decide) o5 (OpnA.cons (by decide) o5 (OpnA.one (by decide) o5))) (fun x : S37 => (x.f0, x.f1, x.f2)) (fun p => ⟨p.1, p.2.1, p.2.2⟩) (fun _ => rfl) (by kernel_rfl)
instance : Inhabited S37 := ⟨z37⟩
theorem o22 : Opn Try.prog 22 (Kd.slice 37 k37) (fun x : List (S37) => x.length ≤ maxLen ∧ x.length * 3 ≤ 140737488351232 ∧ ∀ x1_ ∈ x, ((Lit.int .u8 x1_.f0).wf = true) ∧ (((Lit.int .u8 x1_.f1).wf = true) ∧ ((Lit.int .u8 x1_.f2).wf = true))) := Opn.slice (B := 3) Try.underlying22 (by kernel_rfl) (by kernel_rfl) o37
theorem o60 : Opn Try.prog 60 k60 (fun x : S60 => (x.f0.length ≤ maxLen ∧ x.f0.length * 3 ≤ 140737488351232 ∧ ∀ x1_ ∈ x.f0, ((Lit.int .u8 x1_.f0).wf = true) ∧ (((Lit.int .u8 x1_.f1).wf = true) ∧ ((Lit.int .u8 x1_.f2).wf = true))) ∧ (x.f1.length ≤ maxLen ∧ x.f1.length * 3 ≤ 140737488351232 ∧ ∀ x1_ ∈ x.f1, ((Lit.int .u8 x1_.f0).wf = true) ∧ (((Lit.int .u8 x1_.f1).wf = true) ∧ ((Lit.int .u8 x1_.f2).wf = true)))) := Opn.array Try.underlying60 (OpnA.cons (by decide) o22 (OpnA.one (by decide) o22)) (fun x : S60 => (x.f0, x.f1)) (fun p => ⟨p.1, p.2⟩) (fun _ => rfl) (by kernel_rfl)
theorem o61 : Opn Try.prog 61 k61 (fun x : S61 => ((Lit.int .u8 x.f0).wf = true) ∧ ((Lit.int .u8 x.f1).wf = true)) := Opn.array Try.underlying61 (OpnA.cons (by decide) o5 (OpnA.one (by decide) o5)) (fun x : S61 => (x.f0, x.f1)) (fun p => ⟨p.1, p.2⟩) (fun _ => rfl) (by kernel_rfl)
set_option maxRecDepth 100000 in
theorem lifted (os : Os) (started : os.Started) (H : Type) (enc : TypeId × Value → H) :
  ReturnsInHanded {} Try.checked os 8 .any (Rows.extentFormsSpec.pre6 enc Try.prog Try.f8 Rows.extentFormsRow.domain false) (Rows.extentFormsSpec.post enc Try.prog Try.f8 false true false false) := by
 refine returnsInHanded_of_change_sized (C := Try.checked) own started (by kernel_rfl) Try.func8
  (ChangeSpec.witness6 (enc := enc) (C := Try.checked) false ⟨#[], #[.agg #[.slice none 0 0, .slice none 0 0], .agg #[.int .u8 0, .int .u8 0]], []⟩ 8 (by kernel_rfl) (by kernel_rfl) (by kernel_rfl) (by kernel_rfl)) ?_
 intro W base args ds gs before hval0 hW hcnd hsz0 _
 have hsz : (DataW.weightsEach Try.prog (Try.f8.params.toList ++ Rows.extentFormsSpec.plain.varTypes Try.prog) (ds ++ gs)).all (· ≤ reachBytes) = true := hsz0
 have hval : ∀ (j : Nat) t v, Try.f8.params[j]? = some t → args[j]? = some v → Value.okWide Try.prog W .any base t v := hval0
 have hW' := hW
 obtain ⟨p, q, hA0, hV, rfl, hfz, hnd⟩ := hW
 have hA : DataW.TrodAll enc Try.prog W 0 (fun _ => true) true Try.f8.params.toList args.toList ds p := hA0
 rw [Try.params8] at hA hval hsz
 obtain ⟨v0, vs0, d0, ds0, p0, q0, hargs, rfl, rfl, h0, r0⟩ := trodAll_cons hA
 obtain ⟨v1, vs1, d1, ds1, p1, q1, rfl, rfl, rfl, h1, r1⟩ := trodAll_cons r0
 obtain ⟨rfl, rfl, rfl⟩ := trodAll_nil r1
 obtain rfl : args = #[v0, v1] := by cases args; simp_all
 obtain ⟨rfl, rfl⟩ := trodVars_none hV
 have lt0 : ∀ x ∈ p0, x.block < W.heap.size := by obtain ⟨m, hm⟩ := h0; exact DataW.trod_lt m _ _ _ hm
 obtain ⟨x0, K0, w0⟩ := o60.arg hsz (j := 0) (t := 60) rfl rfl h0
 obtain ⟨cs0, rfl⟩ := okWide_array Try.underlying60 (hval 0 60 v0 rfl rfl)
 obtain ⟨cs0⟩ := cs0
 obtain ⟨A0_0, c0_0, A0_1, c0_1, e0, l0_0, g0_0, l0_1, g0_1⟩ := k60_open K0
 replace e0 : cs0 = [.slice A0_0 x0.f0.length c0_0, .slice A0_1 x0.f1.length c0_1] := e0
 subst e0
 have lt1 : ∀ x ∈ p1, x.block < W.heap.size := by obtain ⟨m, hm⟩ := h1; exact DataW.trod_lt m _ _ _ hm
 obtain ⟨x1, K1, w1⟩ := o61.arg hsz (j := 1) (t := 61) rfl rfl h1
 obtain ⟨cs1, rfl⟩ := okWide_array Try.underlying61 (hval 1 61 v1 rfl rfl)
 obtain ⟨cs1⟩ := cs1
 obtain e1 := k61_open K1
 replace e1 : cs1 = [.int .u8 x1.f0, .int .u8 x1.f1] := e1
 subst e1
 have k0 := h0
 have k1 := h1
 clear hA0 hval0 hsz0 hsz
 obtain ⟨k, h⟩ := Pure.ExtentForms x0.f0 x0.f1 x1.f0 x1.f1 w0 w1
 refine (l08_ExtentForms.calls k _ _ x0.f0 _ _ x0.f1 x1.f0 x1.f1 true W g0_0 l0_0 g0_1 l0_1 rfl h).mono fun e W' ⟨he, bel0⟩ => ?_
 have bel : Below W.heap.size W W' := bel0
 subst he
 exact ⟨_, rfl, _, _, _, [], _, [], hW', trodAll_mk1 (shut_bool Try.underlying4 _), (trodAll_cons_mk (Below.trod laidOut (by kernel_rfl) (of_decide_eq_true (by kernel_rfl)) k0 bel lt0) (trodAll_cons_mk (Below.trod laidOut (by kernel_rfl) (of_decide_eq_true (by kernel_rfl)) k1 bel lt1) trodAll_mk0)), rfl, bel.frame _, fun h => by cases h⟩
theorem over : Rows.extentFormsRow.holds Try.pinned (OpenSpec.ofChange Rows.extentFormsSpec) :=
 OpenClaim.holds_of_wide 8 Try.f8 rfl rfl rfl rfl rfl rfl rfl ⟨rfl, rfl, rfl, rfl, rfl⟩ rfl rfl rfl rfl rfl (by kernel_rfl) Try.func8 (by kernel_rfl)
  (of_decide_eq_true (by kernel_rfl)) (by unfold Func.isWrapper; first | (rw [if_pos (by decide +kernel)]; kernel_rfl) | (rw [if_neg (by decide +kernel)]; exact ⟨rfl, rfl⟩))
  (fun os started H enc _ => lifted os started H enc)
theorem proved : Rows.ExtentFormsSaid := over
#print axioms proved
end Go.Proofs.Ytfhjbhbmbnnimaa.extentForms
namespace Go.Proofs.Ytfhjbhbmbnnimaa
/-- The row, under a short name, for the claim. -/
theorem extentForms_holds : Rows.ExtentFormsSaid := extentForms.proved
end Go.Proofs.Ytfhjbhbmbnnimaa
