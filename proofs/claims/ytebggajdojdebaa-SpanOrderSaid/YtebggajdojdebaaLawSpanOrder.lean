/- SpanOrder holds: for every input the law's call returns true and its arguments read as before; out of the pure statement Pure.SpanOrder and the walk of l11_SpanOrder. -/
import Derived.Test.YtebggajdojdebaaRows
import Derived.Test.YtebggajdojdebaaPSx15
import Derived.Test.YtebggajdojdebaaPureSpanOrder
import Derived.Test.YtebggajdojdebaaOpn
import Derived.WalkKit
import Derived.ProofKit
import Derived.OpenShut
import Derived.ShutString
import Derived.ChangeOld
import Derived.Below
import Derived.SizedLaws
namespace Go.Proofs.Ytebggajdojdebaa.spanOrder
open Go.ChangeShapes Go.WideShapes Go.ChangeAt Go.RowKit Go.Proofs.Ytebggajdojdebaa.PS Go.Proofs.YtebggajdojdebaaW.PrintWords Go.Proofs.Ytebggajdojdebaa.Opn
open Go.ChangeMaps (open_string shut_string)
set_option linter.unusedVariables false
set_option linter.unusedSimpArgs false
theorem own : ownKnob Try.prog.godebug = none := by kernel_rfl
theorem laidOut : laidOutB Try.prog = true := by kernel_rfl
theorem o3 : Opn Try.prog 3 (Kd.int .i64) (fun x : Int => (Lit.int .i64 x).wf = true) := Opn.int Try.underlying3 (by kernel_rfl)
theorem o24 : Opn Try.prog 24 k24 (fun x : S24 => ((Lit.int .i64 x.f0).wf = true) ∧ ((Lit.int .i64 x.f1).wf = true)) := Opn.struct Try.underlying24 (OpnL.cons rfl o3 (OpnL.one rfl o3)) (fun x : S24 => (x.f0, x.f1)) (fun p => ⟨p.1, p.2⟩) (fun _ => rfl) (by kernel_rfl)
instance : Inhabited S24 := ⟨z24⟩
theorem o22 : Opn Try.prog 22 (Kd.slice 24 k24) (fun x : List (S24) => x.length ≤ maxLen ∧ x.length * 16 ≤ 140737488351232 ∧ ∀ x1_ ∈ x, ((Lit.int .i64 x1_.f0).wf = true) ∧ ((Lit.int .i64 x1_.f1).wf = true)) := Opn.slice (B := 16) Try.underlying22 (by kernel_rfl) (by kernel_rfl) o24
theorem o5 : Opn Try.prog 5 (Kd.int .u8) (fun x : Int => (Lit.int .u8 x).wf = true) := Opn.int Try.underlying5 (by kernel_rfl)
theorem o41 : Opn Try.prog 41 k41 (fun x : S41 => ((Lit.int .u8 x.f0).wf = true) ∧ ((Lit.int .u8 x.f1).wf = true)) := Opn.array Try.underlying41 (OpnA.cons (by decide) o5 (OpnA.one (by decide) o5)) (fun x : S41 => (x.f0, x.f1)) (fun p => ⟨p.1, p.2⟩) (fun _ => rfl) (by kernel_rfl)
set_option maxRecDepth 100000 in
theorem lifted (os : Os) (started : os.Started) (H : Type) (enc : TypeId × Value → H) :
    ReturnsInHanded {} Try.checked os 9 .any (Rows.spanOrderSpec.pre6 enc Try.prog Try.f9 Rows.spanOrderRow.domain false) (Rows.spanOrderSpec.post enc Try.prog Try.f9 false true false false) := by
  refine returnsInHanded_of_change_sized (C := Try.checked) own started (by kernel_rfl) Try.func9
    (ChangeSpec.witness6 (enc := enc) (C := Try.checked) false ⟨#[], #[.slice none 0 0, .agg #[.int .u8 0, .int .u8 0], .int .i64 0], []⟩ 8 (by kernel_rfl) (by kernel_rfl) (by kernel_rfl) (by kernel_rfl)) ?_
  intro W base args ds gs before hval0 hW hcnd hsz0 _
  have hsz : (DataW.weightsEach Try.prog (Try.f9.params.toList ++ Rows.spanOrderSpec.plain.varTypes Try.prog) (ds ++ gs)).all (· ≤ reachBytes) = true := hsz0
  have hval : ∀ (j : Nat) t v, Try.f9.params[j]? = some t → args[j]? = some v → Value.okWide Try.prog W .any base t v := hval0
  have hW' := hW
  obtain ⟨p, q, hA0, hV, rfl, hfz, hnd⟩ := hW
  have hA : DataW.TrodAll enc Try.prog W 0 (fun _ => true) true Try.f9.params.toList args.toList ds p := hA0
  rw [Try.params9] at hA hval hsz
  obtain ⟨v0, vs0, d0, ds0, p0, q0, hargs, rfl, rfl, h0, r0⟩ := trodAll_cons hA
  obtain ⟨v1, vs1, d1, ds1, p1, q1, rfl, rfl, rfl, h1, r1⟩ := trodAll_cons r0
  obtain ⟨v2, vs2, d2, ds2, p2, q2, rfl, rfl, rfl, h2, r2⟩ := trodAll_cons r1
  obtain ⟨rfl, rfl, rfl⟩ := trodAll_nil r2
  obtain rfl : args = #[v0, v1, v2] := by cases args; simp_all
  obtain ⟨rfl, rfl⟩ := trodVars_none hV
  have lt0 : ∀ x ∈ p0, x.block < W.heap.size := by obtain ⟨m, hm⟩ := h0; exact DataW.trod_lt m _ _ _ hm
  obtain ⟨x0, K0, w0⟩ := o22.arg hsz (j := 0) (t := 22) rfl rfl h0
  obtain ⟨A0, n0, c0, rfl⟩ := okWide_slice Try.underlying22 (hval 0 22 v0 rfl rfl)
  obtain ⟨B0, b0, e0, l0, K0⟩ := K0
  obtain ⟨E0a, E0b, E0c⟩ : A0 = B0 ∧ n0 = x0.length ∧ c0 = b0 := by injection (List.cons.inj (show [Value.slice A0 n0 c0] = [Value.slice B0 x0.length b0] from e0)).1 with z1 z2 z3; exact ⟨z1, z2, z3⟩
  subst E0a E0b E0c
  have lt1 : ∀ x ∈ p1, x.block < W.heap.size := by obtain ⟨m, hm⟩ := h1; exact DataW.trod_lt m _ _ _ hm
  obtain ⟨x1, K1, w1⟩ := o41.arg hsz (j := 1) (t := 41) rfl rfl h1
  obtain ⟨cs1, rfl⟩ := okWide_array Try.underlying41 (hval 1 41 v1 rfl rfl)
  obtain ⟨cs1⟩ := cs1
  obtain e1 := k41_open K1
  replace e1 : cs1 = [.int .u8 x1.f0, .int .u8 x1.f1] := e1
  subst e1
  obtain ⟨a2, rfl, rfl, rfl, w2⟩ := open_int Try.underlying3 (hval 2 3 v2 rfl rfl) h2
  have k0 := h0
  have k1 := h1
  clear hA0 hval0 hsz0 hsz
  obtain ⟨k, h⟩ := Pure.SpanOrder x0 x1.f0 x1.f1 a2 w0 w1 w2
  refine (l11_SpanOrder.calls k _ _ x0 x1.f0 x1.f1 a2 true W K0 l0 rfl h).mono fun e W' ⟨he, bel0⟩ => ?_
  have bel : Below W.heap.size W W' := bel0
  subst he
  exact ⟨_, rfl, _, _, _, [], _, [], hW', trodAll_mk1 (shut_bool Try.underlying4 _), (trodAll_cons_mk (Below.trod laidOut (by kernel_rfl) (of_decide_eq_true (by kernel_rfl)) k0 bel lt0) (trodAll_cons_mk (Below.trod laidOut (by kernel_rfl) (of_decide_eq_true (by kernel_rfl)) k1 bel lt1) (trodAll_cons_mk (shut_int Try.underlying3 w2) trodAll_mk0))), rfl, bel.frame _, fun h => by cases h⟩
theorem over : Rows.spanOrderRow.holds Try.pinned (OpenSpec.ofChange Rows.spanOrderSpec) :=
  OpenClaim.holds_of_wide 9 Try.f9 rfl rfl rfl rfl rfl rfl rfl ⟨rfl, rfl, rfl, rfl, rfl⟩ rfl rfl rfl rfl rfl (by kernel_rfl) Try.func9 (by kernel_rfl)
    (of_decide_eq_true (by kernel_rfl)) (by unfold Func.isWrapper; first | (rw [if_pos (by decide +kernel)]; kernel_rfl) | (rw [if_neg (by decide +kernel)]; exact ⟨rfl, rfl⟩))
    (fun os started H enc _ => lifted os started H enc)
theorem proved : Rows.SpanOrderSaid := over
#print axioms proved
end Go.Proofs.Ytebggajdojdebaa.spanOrder
namespace Go.Proofs.Ytebggajdojdebaa
/-- The row, under a short name, for the claim. -/
theorem spanOrder_holds : Rows.SpanOrderSaid := spanOrder.proved
end Go.Proofs.Ytebggajdojdebaa
