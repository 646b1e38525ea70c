/- ExtentErases holds: for every input the law's call returns true and its arguments read as before; out of the pure statement Pure.ExtentErases and the walk of l08_ExtentErases. -/
import Derived.Test.YtfhjbhbmbnnimaaRows
import Derived.Test.YtfhjbhbmbnnimaaPEx31
import Derived.Test.YtfhjbhbmbnnimaaPureExtentErases
import Derived.Test.YtfhjbhbmbnnimaaOpn
import Derived.WalkKit
import Derived.ProofKit
import Derived.OpenShut
import Derived.ShutString
import Derived.ChangeOld
import Derived.Below
import Derived.SizedLaws
namespace Go.Proofs.Ytfhjbhbmbnnimaa.extentErases
open Go.ChangeShapes Go.WideShapes Go.ChangeAt Go.RowKit Go.Proofs.Ytfhjbhbmbnnimaa.PE Go.Proofs.YtfhjbhbmbnnimaaW.PrintWords Go.Proofs.Ytfhjbhbmbnnimaa.Opn
open Go.ChangeMaps (open_string shut_string)
set_option linter.unusedVariables false
set_option linter.unusedSimpArgs false
theorem own : ownKnob Try.prog.godebug = none := by kernel_rfl
theorem laidOut : laidOutB Try.prog = true := by kernel_rfl
theorem o5 : Opn Try.prog 5 (Kd.int .u8) (fun x : Int => (Lit.int .u8 x).wf = true) := Opn.int Try.underlying5 (by kernel_rfl)
theorem o37 : Opn Try.prog 37 k37 (fun x : S37 => ((Lit.int .u8 x.f0).wf = true) ∧ (((Lit.int .u8 x.f1).wf = true) ∧ ((Lit.int .u8 x.f2).wf = true))) := Opn.array Try.underlying37 (OpnA.cons (by decide) o5 (OpnA.cons (by decide) o5 (OpnA.one (by decide) o5))) (fun x : S37 => (x.f0, x.f1, x.f2)) (fun p => ⟨p.1, p.2.1, p.2.2⟩) (fun _ => rfl) (by kernel_rfl)
instance : Inhabited S37 := ⟨z37⟩
theorem o22 : Opn Try.prog 22 (Kd.slice 37 k37) (fun x : List (S37) => x.length ≤ maxLen ∧ x.length * 3 ≤ 140737488351232 ∧ ∀ x1_ ∈ x, ((Lit.int .u8 x1_.f0).wf = true) ∧ (((Lit.int .u8 x1_.f1).wf = true) ∧ ((Lit.int .u8 x1_.f2).wf = true))) := Opn.slice (B := 3) Try.underlying22 (by kernel_rfl) (by kernel_rfl) o37
theorem o3 : Opn Try.prog 3 (Kd.int .i64) (fun x : Int => (Lit.int .i64 x).wf = true) := Opn.int Try.underlying3 (by kernel_rfl)
theorem o63 : Opn Try.prog 63 (Kd.slice 3 (Kd.int .i64)) (fun x : List Int => x.length ≤ maxLen ∧ x.length * 8 ≤ 140737488351232 ∧ ∀ x1_ ∈ x, (Lit.int .i64 x1_).wf = true) := Opn.slice (B := 8) Try.underlying63 (by kernel_rfl) (by kernel_rfl) o3
set_option maxRecDepth 100000 in
theorem lifted (os : Os) (started : os.Started) (H : Type) (enc : TypeId × Value → H) :
    ReturnsInHanded {} Try.checked os 9 .any (Rows.extentErasesSpec.pre6 enc Try.prog Try.f9 Rows.extentErasesRow.domain false) (Rows.extentErasesSpec.post enc Try.prog Try.f9 false true false false) := by
  refine returnsInHanded_of_change_sized (C := Try.checked) own started (by kernel_rfl) Try.func9
    (ChangeSpec.witness6 (enc := enc) (C := Try.checked) false ⟨#[], #[.slice none 0 0, .slice none 0 0], []⟩ 8 (by kernel_rfl) (by kernel_rfl) (by kernel_rfl) (by kernel_rfl)) ?_
  intro W base args ds gs before hval0 hW hcnd hsz0 _
  have hsz : (DataW.weightsEach Try.prog (Try.f9.params.toList ++ Rows.extentErasesSpec.plain.varTypes Try.prog) (ds ++ gs)).all (· ≤ reachBytes) = true := hsz0
  have hval : ∀ (j : Nat) t v, Try.f9.params[j]? = some t → args[j]? = some v → Value.okWide Try.prog W .any base t v := hval0
  have hW' := hW
  obtain ⟨p, q, hA0, hV, rfl, hfz, hnd⟩ := hW
  have hA : DataW.TrodAll enc Try.prog W 0 (fun _ => true) true Try.f9.params.toList args.toList ds p := hA0
  rw [Try.params9] at hA hval hsz
  obtain ⟨v0, vs0, d0, ds0, p0, q0, hargs, rfl, rfl, h0, r0⟩ := trodAll_cons hA
  obtain ⟨v1, vs1, d1, ds1, p1, q1, rfl, rfl, rfl, h1, r1⟩ := trodAll_cons r0
  obtain ⟨rfl, rfl, rfl⟩ := trodAll_nil r1
  obtain rfl : args = #[v0, v1] := by cases args; simp_all
  obtain ⟨rfl, rfl⟩ := trodVars_none hV
  have lt0 : ∀ x ∈ p0, x.block < W.heap.size := by obtain ⟨m, hm⟩ := h0; exact DataW.trod_lt m _ _ _ hm
  obtain ⟨x0, K0, w0⟩ := o22.arg hsz (j := 0) (t := 22) rfl rfl h0
  obtain ⟨A0, n0, c0, rfl⟩ := okWide_slice Try.underlying22 (hval 0 22 v0 rfl rfl)
  obtain ⟨B0, b0, e0, l0, K0⟩ := K0
  obtain ⟨E0a, E0b, E0c⟩ : A0 = B0 ∧ n0 = x0.length ∧ c0 = b0 := by injection (List.cons.inj (show [Value.slice A0 n0 c0] = [Value.slice B0 x0.length b0] from e0)).1 with z1 z2 z3; exact ⟨z1, z2, z3⟩
  subst E0a E0b E0c
  have lt1 : ∀ x ∈ p1, x.block < W.heap.size := by obtain ⟨m, hm⟩ := h1; exact DataW.trod_lt m _ _ _ hm
  obtain ⟨x1, K1, w1⟩ := o63.arg hsz (j := 1) (t := 63) rfl rfl h1
  obtain ⟨A1, n1, c1, rfl⟩ := okWide_slice Try.underlying63 (hval 1 63 v1 rfl rfl)
  obtain ⟨B1, b1, e1, l1, K1⟩ := K1
  obtain ⟨E1a, E1b, E1c⟩ : A1 = B1 ∧ n1 = x1.length ∧ c1 = b1 := by injection (List.cons.inj (show [Value.slice A1 n1 c1] = [Value.slice B1 x1.length b1] from e1)).1 with z1 z2 z3; exact ⟨z1, z2, z3⟩
  subst E1a E1b E1c
  have k0 := h0
  have k1 := h1
  clear hA0 hval0 hsz0 hsz
  obtain ⟨k, h⟩ := Pure.ExtentErases x0 x1 w0 w1
  refine (l08_ExtentErases.calls k _ _ x0 _ _ x1 true W K0 l0 K1 l1 rfl h).mono fun e W' ⟨he, bel0⟩ => ?_
  have bel : Below W.heap.size W W' := bel0
  subst he
  exact ⟨_, rfl, _, _, _, [], _, [], hW', trodAll_mk1 (shut_bool Try.underlying4 _), (trodAll_cons_mk (Below.trod laidOut (by kernel_rfl) (of_decide_eq_true (by kernel_rfl)) k0 bel lt0) (trodAll_cons_mk (Below.trod laidOut (by kernel_rfl) (of_decide_eq_true (by kernel_rfl)) k1 bel lt1) trodAll_mk0)), rfl, bel.frame _, fun h => by cases h⟩
theorem over : Rows.extentErasesRow.holds Try.pinned (OpenSpec.ofChange Rows.extentErasesSpec) :=
  OpenClaim.holds_of_wide 9 Try.f9 rfl rfl rfl rfl rfl rfl rfl ⟨rfl, rfl, rfl, rfl, rfl⟩ rfl rfl rfl rfl rfl (by kernel_rfl) Try.func9 (by kernel_rfl)
    (of_decide_eq_true (by kernel_rfl)) (by unfold Func.isWrapper; first | (rw [if_pos (by decide +kernel)]; kernel_rfl) | (rw [if_neg (by decide +kernel)]; exact ⟨rfl, rfl⟩))
    (fun os started H enc _ => lifted os started H enc)
theorem proved : Rows.ExtentErasesSaid := over
#print axioms proved
end Go.Proofs.Ytfhjbhbmbnnimaa.extentErases
namespace Go.Proofs.Ytfhjbhbmbnnimaa
/-- The row, under a short name, for the claim. -/
theorem extentErases_holds : Rows.ExtentErasesSaid := extentErases.proved
end Go.Proofs.Ytfhjbhbmbnnimaa
