/- The card of MerkleMatchesReference holds: for every two lists of pairs of bytes and every four bytes the law returns true and its arguments read as before; all functions of merkle return the results of the reference, for any keys, and proofs in which something was changed. -/
import Derived.Test.YtanabbjakacgbaaGreatDoorM11
import Derived.Test.YtanabbjakacgbaaGreatDoorM17
namespace Go.Proofs.YtanabbjakacgbaaGreatDoor.merkleMatchesReference
open Go Go.ChangeShapes Go.WideShapes Go.ChangeAt Go.RowKit Go.Proofs.YtanabbjakacgbaaGreatDoorW.PrintWords Go.Proofs.YtanabbjakacgbaaGreatDoor.Opn Go.Proofs.YtanabbjakacgbaaGreatDoor.Sp
set_option linter.unusedVariables false
set_option linter.unusedSimpArgs false
set_option maxRecDepth 100000
theorem lifted (os : Os) (started : os.Started) (H : Type) (enc : TypeId × Value → H) :
  ReturnsInHanded {} Tryz.checked os 3 .any (fun w args => (Rows.merkleMatchesReferenceSpec.pre enc Tryz.prog Tryz.f3 [] false w args ∧ laidMetH Tryz.prog laidW w) ∧ sizedMet enc Tryz.prog Tryz.f3 (OpenSpec.ofChange Rows.merkleMatchesReferenceSpec) false w args)
   (Rows.merkleMatchesReferenceSpec.post enc Tryz.prog Tryz.f3 false true false false) := by
 refine handed_shaped (C := Tryz.checked) (X := fun w _ => laidMetH Tryz.prog laidW w) (fun _ _ _ hh h => h.of_heap hh) own started (by kernel_rfl) Tryz.func3
  (ChangeSpec.witness_shaped (enc := enc) (C := Tryz.checked) (os := os) (X := fun w _ => laidMetH Tryz.prog laidW w) false (World.doorLaid Tryz.prog 400 os) #[.slice none 0 0, .slice none 0 0, .agg #[.int .u8 0, .int .u8 0, .int .u8 0, .int .u8 0]] 8 rfl (World.shaped_of_RefB (by kernel_rfl) (by kernel_rfl)) (by kernel_rfl) (by kernel_rfl) (by kernel_rfl) (door_met os _)) ?_
 intro W base args ds gs before hsh hval0 hW hsz0 hL
 have hWW := words_of_laid hL hsh
 have hsz : (DataW.weightsEach Tryz.prog (Tryz.f3.params.toList ++ Rows.merkleMatchesReferenceSpec.plain.varTypes Tryz.prog) (ds ++ gs)).all (· ≤ reachBytes) = true := hsz0
 have hval : ∀ (j : Nat) t v, Tryz.f3.params[j]? = some t → args[j]? = some v → Value.okWide Tryz.prog W .any base t v := hval0
 have hW' := hW
 obtain ⟨p, q, hA0, hV, rfl, hfz, hnd⟩ := hW
 have hA : DataW.TrodAll enc Tryz.prog W 0 (fun _ => true) true Tryz.f3.params.toList args.toList ds p := hA0
 rw [Tryz.params3] at hA hval hsz
 obtain ⟨v0, vs0, d0, ds0, p0, q0, hargs, rfl, rfl, h0, r0⟩ := trodAll_cons hA
 obtain ⟨v1, vs1, d1, ds1, p1, q1, rfl, rfl, rfl, h1, r1⟩ := trodAll_cons r0
 obtain ⟨v2, vs2, d2, ds2, p2, q2, rfl, rfl, rfl, h2, r2⟩ := trodAll_cons r1
 obtain ⟨rfl, rfl, rfl⟩ := trodAll_nil r2
 obtain rfl : args = #[v0, v1, v2] := by cases args; simp_all
 obtain ⟨rfl, rfl⟩ := trodVars_none hV
 have lt0 : ∀ x ∈ p0, x.block < W.heap.size := by obtain ⟨m, hm⟩ := h0; exact DataW.trod_lt m _ _ _ hm
 have lt1 : ∀ x ∈ p1, x.block < W.heap.size := by obtain ⟨m, hm⟩ := h1; exact DataW.trod_lt m _ _ _ hm
 have lt2 : ∀ x ∈ p2, x.block < W.heap.size := by obtain ⟨m, hm⟩ := h2; exact DataW.trod_lt m _ _ _ hm
 obtain ⟨x0, K0, w0⟩ := o22.arg hsz (j := 0) (t := 22) rfl rfl h0
 obtain ⟨A0, n0, c0, rfl⟩ := okWide_slice Tryz.underlying22 (hval 0 22 v0 rfl rfl)
 obtain ⟨B0, b0, e0, l0, K0⟩ := K0
 obtain ⟨E0a, E0b, E0c⟩ : A0 = B0 ∧ n0 = x0.length ∧ c0 = b0 := by injection (List.cons.inj (show [Value.slice A0 n0 c0] = [Value.slice B0 x0.length b0] from e0)).1 with z1 z2 z3; exact ⟨z1, z2, z3⟩
 subst E0a E0b E0c
 obtain ⟨x1, K1, w1⟩ := o22.arg hsz (j := 1) (t := 22) rfl rfl h1
 obtain ⟨A1, n1, c1, rfl⟩ := okWide_slice Tryz.underlying22 (hval 1 22 v1 rfl rfl)
 obtain ⟨B1, b1, e1, l1, K1⟩ := K1
 obtain ⟨E1a, E1b, E1c⟩ : A1 = B1 ∧ n1 = x1.length ∧ c1 = b1 := by injection (List.cons.inj (show [Value.slice A1 n1 c1] = [Value.slice B1 x1.length b1] from e1)).1 with z1 z2 z3; exact ⟨z1, z2, z3⟩
 subst E1a E1b E1c
 obtain ⟨x2, K2, w2⟩ := o39.arg hsz (j := 2) (t := 23) rfl rfl h2
 obtain ⟨cs2, rfl⟩ := okWide_array Tryz.underlying23 (hval 2 23 v2 rfl rfl)
 obtain rfl : cs2 = #[.int .u8 x2.1, .int .u8 x2.2.1, .int .u8 x2.2.2.1, .int .u8 x2.2.2.2] := by
  have h := four_K K2
  cases cs2
  exact congrArg List.toArray h
 have k0 := h0
 have k1 := h1
 have k2 := h2
 clear hA0 hval0 hsz0 hsz
 refine (matches_calls x0 x1 w0.2.2 w1.2.2 x2.1 x2.2.1 x2.2.2.1 x2.2.2.2 w2.1 w2.2.1 w2.2.2.1 w2.2.2.2 A0 A1 c0 c1 W hWW K0 l0 K1 l1).mono fun e W' ⟨he, bel0⟩ => ?_
 have bel : Below W.heap.size W W' := bel0
 subst he
 exact ⟨_, rfl, _, _, _, [], _, [], hW', trodAll_mk1 (shut_bool Tryz.underlying4 _), (trodAll_cons_mk (Below.trod laidOut (by kernel_rfl) (of_decide_eq_true (by kernel_rfl)) k0 bel lt0) (trodAll_cons_mk (Below.trod laidOut (by kernel_rfl) (of_decide_eq_true (by kernel_rfl)) k1 bel lt1) (trodAll_cons_mk (Below.trod laidOut (by kernel_rfl) (of_decide_eq_true (by kernel_rfl)) k2 bel lt2) trodAll_mk0))), rfl, bel.frame _, fun h => by cases h⟩
theorem over : Rows.merkleMatchesReferenceRow.holds Tryz.pinned (OpenSpec.ofChange Rows.merkleMatchesReferenceSpec) :=
 OpenClaim.holds_of_wide 3 Tryz.f3 rfl rfl rfl rfl rfl rfl rfl ⟨rfl, rfl, rfl, rfl, rfl⟩ rfl rfl rfl rfl rfl (by kernel_rfl) Tryz.func3 (by kernel_rfl)
  (of_decide_eq_true (by kernel_rfl)) (by unfold Func.isWrapper; first | (rw [if_pos (by decide +kernel)]; kernel_rfl) | (rw [if_neg (by decide +kernel)]; exact ⟨rfl, rfl⟩))
  (fun os started H enc _ => lifted os started H enc)
end Go.Proofs.YtanabbjakacgbaaGreatDoor.merkleMatchesReference
namespace Go.Proofs.YtanabbjakacgbaaGreatDoor
open Go
set_option maxRecDepth 100000
theorem merkleMatchesReference_holds : Rows.MerkleMatchesReferenceCardSaid :=
 Claim7.holds_tied_plain_at .later [] [.data] true (true, "99592c0339d4bc9ac5eea2634f14d52165f0c64fb823f3ebd1c3c2c040671088") false
  merkleMatchesReference.over (fun _ h => by cases h) (by kernel_rfl) (fun _ h => by cases h) merkleMatchesReference_row_tie rfl ⟨rfl, rfl⟩ (by kernel_rfl) rfl
  (fun f fn hf hfn => by
   obtain rfl : f = 3 := Option.some.inj ((show Tryz.prog.funcNamed "burgage/burgagelaw04.MerkleMatchesReference" = some 3 by kernel_rfl).symm.trans hf) |>.symm
   obtain rfl : fn = Tryz.f3 := (Option.some.inj (Tryz.func3.symm.trans hfn)).symm
   exact ⟨by kernel_rfl, fun j t ht => by
    rw [Tryz.params3] at ht
    have hm : t ∈ [22, 22, 23] := by simpa using Array.mem_of_getElem? ht
    have hall : ([22, 22, 23].all fun u => !Tryz.prog.wantsStandIn u) = true := by kernel_rfl
    exact (show Tryz.prog.wantsStandIn t = false by simpa using List.all_eq_true.1 hall t hm)⟩)
  (by kernel_rfl)
#print axioms merkleMatchesReference_holds
end Go.Proofs.YtanabbjakacgbaaGreatDoor
