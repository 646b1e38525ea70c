/- The card of MerkleChanges holds: for every list of pairs of bytes and every four bytes the law returns true and its arguments read as before; putting and dropping keep lists valid and change one key alone, and changes of different keys may be made in either order. -/
import Derived.Test.YtanabbjakacgbaaDoorM10
import Derived.Test.YtanabbjakacgbaaDoorM14
namespace Go.Proofs.YtanabbjakacgbaaDoor.merkleChanges
open Go Go.ChangeShapes Go.WideShapes Go.ChangeAt Go.RowKit Go.Proofs.YtanabbjakacgbaaDoorW.PrintWords Go.Proofs.YtanabbjakacgbaaDoor.Opn Go.Proofs.YtanabbjakacgbaaDoor.Sp
set_option linter.unusedVariables false
set_option linter.unusedSimpArgs false
set_option maxRecDepth 100000
theorem lifted (os : Os) (started : os.Started) (H : Type) (enc : TypeId × Value → H) :
    ReturnsInHanded {} Tryd.checked os 9 .any (fun w args => (Rows.merkleChangesSpec.pre enc Tryd.prog Tryd.f9 [] false w args ∧ laidMetH Tryd.prog laidW w) ∧ sizedMet enc Tryd.prog Tryd.f9 (OpenSpec.ofChange Rows.merkleChangesSpec) false w args)
      (Rows.merkleChangesSpec.post enc Tryd.prog Tryd.f9 false true false false) := by
  refine handed_shaped (C := Tryd.checked) (X := fun w _ => laidMetH Tryd.prog laidW w) (fun _ _ _ hh h => h.of_heap hh) own started (by kernel_rfl) Tryd.func9
    (ChangeSpec.witness_shaped (enc := enc) (C := Tryd.checked) (os := os) (X := fun w _ => laidMetH Tryd.prog laidW w) false (World.doorLaid Tryd.prog 400 os) #[.slice none 0 0, .agg #[.int .u8 0, .int .u8 0, .int .u8 0, .int .u8 0]] 8 rfl (World.shaped_of_RefB (by kernel_rfl) (by kernel_rfl)) (by kernel_rfl) (by kernel_rfl) (by kernel_rfl) (door_met os _)) ?_
  intro W base args ds gs before hsh hval0 hW hsz0 hL
  have hWW := words_of_laid hL hsh
  have hsz : (DataW.weightsEach Tryd.prog (Tryd.f9.params.toList ++ Rows.merkleChangesSpec.plain.varTypes Tryd.prog) (ds ++ gs)).all (· ≤ reachBytes) = true := hsz0
  have hval : ∀ (j : Nat) t v, Tryd.f9.params[j]? = some t → args[j]? = some v → Value.okWide Tryd.prog W .any base t v := hval0
  have hW' := hW
  obtain ⟨p, q, hA0, hV, rfl, hfz, hnd⟩ := hW
  have hA : DataW.TrodAll enc Tryd.prog W 0 (fun _ => true) true Tryd.f9.params.toList args.toList ds p := hA0
  rw [Tryd.params9] at hA hval hsz
  obtain ⟨v0, vs0, d0, ds0, p0, q0, hargs, rfl, rfl, h0, r0⟩ := trodAll_cons hA
  obtain ⟨v1, vs1, d1, ds1, p1, q1, rfl, rfl, rfl, h1, r1⟩ := trodAll_cons r0
  obtain ⟨rfl, rfl, rfl⟩ := trodAll_nil r1
  obtain rfl : args = #[v0, v1] := by cases args; simp_all
  obtain ⟨rfl, rfl⟩ := trodVars_none hV
  have lt0 : ∀ x ∈ p0, x.block < W.heap.size := by obtain ⟨m, hm⟩ := h0; exact DataW.trod_lt m _ _ _ hm
  have lt1 : ∀ x ∈ p1, x.block < W.heap.size := by obtain ⟨m, hm⟩ := h1; exact DataW.trod_lt m _ _ _ hm
  obtain ⟨x0, K0, w0⟩ := o22.arg hsz (j := 0) (t := 22) rfl rfl h0
  obtain ⟨A0, n0, c0, rfl⟩ := okWide_slice Tryd.underlying22 (hval 0 22 v0 rfl rfl)
  obtain ⟨B0, b0, e0, l0, K0⟩ := K0
  obtain ⟨E0a, E0b, E0c⟩ : A0 = B0 ∧ n0 = x0.length ∧ c0 = b0 := by injection (List.cons.inj (show [Value.slice A0 n0 c0] = [Value.slice B0 x0.length b0] from e0)).1 with z1 z2 z3; exact ⟨z1, z2, z3⟩
  subst E0a E0b E0c
  obtain ⟨x1, K1, w1⟩ := o39.arg hsz (j := 1) (t := 39) rfl rfl h1
  obtain ⟨cs1, rfl⟩ := okWide_array Tryd.underlying39 (hval 1 39 v1 rfl rfl)
  obtain rfl : cs1 = #[.int .u8 x1.1, .int .u8 x1.2.1, .int .u8 x1.2.2.1, .int .u8 x1.2.2.2] := by
    have h := four_K K1
    cases cs1
    exact congrArg List.toArray h
  have k0 := h0
  have k1 := h1
  clear hA0 hval0 hsz0 hsz
  refine (changes_calls x0 w0.2.2 x1.1 x1.2.1 x1.2.2.1 x1.2.2.2 w1.1 w1.2.1 w1.2.2.1 w1.2.2.2 A0 c0 W hWW K0 l0).mono fun e W' ⟨he, bel0⟩ => ?_
  have bel : Below W.heap.size W W' := bel0
  subst he
  exact ⟨_, rfl, _, _, _, [], _, [], hW', trodAll_mk1 (shut_bool Tryd.underlying4 _), (trodAll_cons_mk (Below.trod laidOut (by kernel_rfl) (of_decide_eq_true (by kernel_rfl)) k0 bel lt0) (trodAll_cons_mk (Below.trod laidOut (by kernel_rfl) (of_decide_eq_true (by kernel_rfl)) k1 bel lt1) trodAll_mk0)), rfl, bel.frame _, fun h => by cases h⟩
theorem over : Rows.merkleChangesRow.holds Tryd.pinned (OpenSpec.ofChange Rows.merkleChangesSpec) :=
  OpenClaim.holds_of_wide 9 Tryd.f9 rfl rfl rfl rfl rfl rfl rfl ⟨rfl, rfl, rfl, rfl, rfl⟩ rfl rfl rfl rfl rfl (by kernel_rfl) Tryd.func9 (by kernel_rfl)
    (of_decide_eq_true (by kernel_rfl)) (by unfold Func.isWrapper; first | (rw [if_pos (by decide +kernel)]; kernel_rfl) | (rw [if_neg (by decide +kernel)]; exact ⟨rfl, rfl⟩))
    (fun os started H enc _ => lifted os started H enc)
end Go.Proofs.YtanabbjakacgbaaDoor.merkleChanges
namespace Go.Proofs.YtanabbjakacgbaaDoor
open Go
set_option maxRecDepth 100000
theorem merkleChanges_holds : Rows.MerkleChangesCardSaid :=
  Claim7.holds_tied_plain_at .later [] [.data] true (true, "7cd61a226f883657e3bc231bcb9333ed521414ae231b014c89661dcd2ba5a140") false
    merkleChanges.over (fun _ h => by cases h) (by kernel_rfl) (fun _ h => by cases h) merkleChanges_row_tie rfl ⟨rfl, rfl⟩ (by kernel_rfl) rfl
    (fun f fn hf hfn => by
      obtain rfl : f = 9 := Option.some.inj ((show Tryd.prog.funcNamed "burgage/burgagelaw04.MerkleChanges" = some 9 by kernel_rfl).symm.trans hf) |>.symm
      obtain rfl : fn = Tryd.f9 := (Option.some.inj (Tryd.func9.symm.trans hfn)).symm
      exact ⟨by kernel_rfl, fun j t ht => by
        rw [Tryd.params9] at ht
        have hm : t ∈ [22, 39] := by simpa using Array.mem_of_getElem? ht
        have hall : ([22, 39].all fun u => !Tryd.prog.wantsStandIn u) = true := by kernel_rfl
        exact (show Tryd.prog.wantsStandIn t = false by simpa using List.all_eq_true.1 hall t hm)⟩)
    (by kernel_rfl)
#print axioms merkleChanges_holds
end Go.Proofs.YtanabbjakacgbaaDoor
