/- Plain Lean functions with the answers of the Go functions that these laws reach, and proofs that the calls come to them; written by this session's program. -/
import Derived.Test.YtebggajdojdebaaPSx0
import Derived.Test.YtebggajdojdebaaPSx4
import Derived.Test.YtebggajdojdebaaPSx5
import Derived.Test.YtebggajdojdebaaPSx6
import Derived.Test.YtebggajdojdebaaPSx8
namespace Go.Proofs.Ytebggajdojdebaa.PS
open Go.RowKit Go.Proofs.YtebggajdojdebaaW.PrintWords Go.Proofs.YtebggajdojdebaaW.PrintLast Go.Proofs.YtebggajdojdebaaW.PrintMore
attribute [local go_sem] max2_int min2_int max_two min_two max_three min_three max_four min_four   -- for this text's walks alone
set_option linter.unusedVariables false
set_option linter.unusedSimpArgs false

/-! ### l11_SpanSets: function 5 -/
mutual
def l11_SpanSets.j0 : Nat → Bool → List (S24) → List (S24) → List (S24) → List (S24) → List (S24) → Bool → Option (Bool)
 | 0, _, _, _, _, _, _, _ => none
 | k + 1, x5, x6, x7, x8, x9, x10, x55 => if x55 = true then (some false) else (l11_SpanSets.l0 k x5 x6 x7 x8 x9 x10 (-22))
def l11_SpanSets.l0 : Nat → Bool → List (S24) → List (S24) → List (S24) → List (S24) → List (S24) → Int → Option (Bool)
 | 0, _, _, _, _, _, _, _ => none
 | k + 1, x5, x6, x7, x8, x9, x10, x11 => if x11 ≤ 22 then ((r11_Has.f k x6 x11).bind fun t412 => ((r11_Has.f k x7 x11).bind fun t413 => ((r11_Has.f k x8 x11).bind fun t414 => (if t412 = true then (if (t414 != true) = true then (some false) else ((r11_Has.f k x9 x11).bind fun t415 => (if (t415 != t413) = true then (some false) else ((r11_Has.f k x10 x11).bind fun t416 => (if (t416 != (!t413)) = true then (some false) else (l11_SpanSets.l0 k x5 x6 x7 x8 x9 x10 (wrap64 (x11 + 1)))))))) else (if (t414 != t413) = true then (some false) else ((r11_Has.f k x9 x11).bind fun t417 => (if (t417 != false) = true then (some false) else ((r11_Has.f k x10 x11).bind fun t418 => (if (t418 != false) = true then (some false) else (l11_SpanSets.l0 k x5 x6 x7 x8 x9 x10 (wrap64 (x11 + 1)))))))))))) else (some x5)
end
def l11_SpanSets.f (k : Nat) (l0 : List (S49)) (l1 : List (S49)) : Option (Bool) := (l11_sanity.f k).bind fun t393 => ((r11_Made.f k l0).bind fun t394 => ((r11_Made.f k l1).bind fun t397 => ((span_Union.f t394 t397).bind fun t400 => ((span_Meet.f t394 t397).bind fun t403 => ((span_Minus.f t394 t397).bind fun t406 => ((r11_Valid.f k t400).bind fun t409 => (if t409 = true then ((r11_Valid.f k t403).bind fun t410 => (if t410 = true then ((r11_Valid.f k t406).bind fun t411 => (if t411 = true then (if (t400.length : Int) > 16 then (l11_SpanSets.j0 k t393 t394 t397 t400 t403 t406 true) else (if (t403.length : Int) > 16 then (l11_SpanSets.j0 k t393 t394 t397 t400 t403 t406 true) else (l11_SpanSets.j0 k t393 t394 t397 t400 t403 t406 (decide ((t406.length : Int) > 16))))) else (l11_SpanSets.j0 k t393 t394 t397 t400 t403 t406 true))) else (l11_SpanSets.j0 k t393 t394 t397 t400 t403 t406 true))) else (l11_SpanSets.j0 k t393 t394 t397 t400 t403 t406 true))))))))
theorem l11_SpanSets.mono_l : ∀ k, (∀ y0 y1 y2 y3 y4 y5 y6, LeO (l11_SpanSets.j0 k y0 y1 y2 y3 y4 y5 y6) (l11_SpanSets.j0 (k + 1) y0 y1 y2 y3 y4 y5 y6)) ∧ (∀ y0 y1 y2 y3 y4 y5 y6, LeO (l11_SpanSets.l0 k y0 y1 y2 y3 y4 y5 y6) (l11_SpanSets.l0 (k + 1) y0 y1 y2 y3 y4 y5 y6))
 | 0 => ⟨fun _ _ _ _ _ _ _ r h => by simp [l11_SpanSets.j0] at h, fun _ _ _ _ _ _ _ r h => by simp [l11_SpanSets.l0] at h⟩
 | k + 1 => by
  obtain ⟨ih0, ih1⟩ := l11_SpanSets.mono_l k
  refine ⟨?_, ?_⟩
  ·intro y0 y1 y2 y3 y4 y5 y6
   unfold l11_SpanSets.j0
   repeat' first
   | (with_reducible exact ih0 _ _ _ _ _ _ _)
   | (with_reducible exact ih1 _ _ _ _ _ _ _)
   | (with_reducible exact l11_sanity.mono _)
   | (with_reducible exact r11_Has.mono _ _ _)
   | (with_reducible exact r11_Made.mono _ _)
   | (with_reducible exact r11_Valid.mono _ _)
   | (with_reducible exact LeO.refl _)
   | (with_reducible exact LeO.none _)
   | (with_reducible refine LeO.ite ?_ ?_)
   | (with_reducible refine LeO.bind ?_ (fun _ => ?_))
   | exact ih0 _ _ _ _ _ _ _
   | exact ih1 _ _ _ _ _ _ _
   | exact l11_sanity.mono _
   | exact r11_Has.mono _ _ _
   | exact r11_Made.mono _ _
   | exact r11_Valid.mono _ _
   | exact LeO.none _
   | refine LeO.ite ?_ ?_
   | refine LeO.bind ?_ (fun _ => ?_)
  ·intro y0 y1 y2 y3 y4 y5 y6
   unfold l11_SpanSets.l0
   repeat' first
   | (with_reducible exact ih0 _ _ _ _ _ _ _)
   | (with_reducible exact ih1 _ _ _ _ _ _ _)
   | (with_reducible exact l11_sanity.mono _)
   | (with_reducible exact r11_Has.mono _ _ _)
   | (with_reducible exact r11_Made.mono _ _)
   | (with_reducible exact r11_Valid.mono _ _)
   | (with_reducible exact LeO.refl _)
   | (with_reducible exact LeO.none _)
   | (with_reducible refine LeO.ite ?_ ?_)
   | (with_reducible refine LeO.bind ?_ (fun _ => ?_))
   | exact ih0 _ _ _ _ _ _ _
   | exact ih1 _ _ _ _ _ _ _
   | exact l11_sanity.mono _
   | exact r11_Has.mono _ _ _
   | exact r11_Made.mono _ _
   | exact r11_Valid.mono _ _
   | exact LeO.none _
   | refine LeO.ite ?_ ?_
   | refine LeO.bind ?_ (fun _ => ?_)
theorem l11_SpanSets.mono : ∀ a0 a1 k, LeO (l11_SpanSets.f k a0 a1) (l11_SpanSets.f (k + 1) a0 a1) := by
 intro a0 a1 k
 obtain ⟨ih0, ih1⟩ := l11_SpanSets.mono_l k
 unfold l11_SpanSets.f
 repeat' first
   | (with_reducible exact ih0 _ _ _ _ _ _ _)
   | (with_reducible exact ih1 _ _ _ _ _ _ _)
   | (with_reducible exact l11_sanity.mono _)
   | (with_reducible exact r11_Has.mono _ _ _)
   | (with_reducible exact r11_Made.mono _ _)
   | (with_reducible exact r11_Valid.mono _ _)
   | (with_reducible exact LeO.refl _)
   | (with_reducible exact LeO.none _)
   | (with_reducible refine LeO.ite ?_ ?_)
   | (with_reducible refine LeO.bind ?_ (fun _ => ?_))
   | exact ih0 _ _ _ _ _ _ _
   | exact ih1 _ _ _ _ _ _ _
   | exact l11_sanity.mono _
   | exact r11_Has.mono _ _ _
   | exact r11_Made.mono _ _
   | exact r11_Valid.mono _ _
   | exact LeO.none _
   | refine LeO.ite ?_ ?_
   | refine LeO.bind ?_ (fun _ => ?_)
set_option maxHeartbeats 8000000 in
set_option maxRecDepth 100000 in
theorem l11_SpanSets.calls (k : Nat) (A0 : Option Addr) (c0 : Nat) (l0 : List (S49)) (A1 : Option Addr) (c1 : Nat) (l1 : List (S49)) (r : Bool) (w : World) (hr0 : Kd.C k49 w A0 l0.length l0) (hc0 : l0.length ≤ c0) (hr1 : Kd.C k49 w A1 l1.length l1) (hc1 : l1.length ≤ c1) (hr : r = true) (h : l11_SpanSets.f k l0 l1 = some r) :
  Calls Try.prog 5 #[.slice A0 l0.length c0, .slice A1 l1.length c1] w fun e w' => e = .returned (.bool r) ∧ Below w.heap.size w w' := by
 have HR0 := Aside0.mk hr0
 have HC0 := Aside0.mk hc0
 clear hr0 hc0
 have HR1 := Aside0.mk hr1
 have HC1 := Aside0.mk hc1
 clear hr1 hc1
 have HB := Aside0.mk (Below.refl w.heap.size w)
 have HLAW := Aside0.mk hr
 clear hr
 have H : ((l11_sanity.f k).bind fun t393 => ((r11_Made.f k l0).bind fun t394 => ((r11_Made.f k l1).bind fun t397 => ((span_Union.f t394 t397).bind fun t400 => ((span_Meet.f t394 t397).bind fun t403 => ((span_Minus.f t394 t397).bind fun t406 => ((r11_Valid.f k t400).bind fun t409 => (if t409 = true then ((r11_Valid.f k t403).bind fun t410 => (if t410 = true then ((r11_Valid.f k t406).bind fun t411 => (if t411 = true then (if (t400.length : Int) > 16 then (l11_SpanSets.j0 k t393 t394 t397 t400 t403 t406 true) else (if (t403.length : Int) > 16 then (l11_SpanSets.j0 k t393 t394 t397 t400 t403 t406 true) else (l11_SpanSets.j0 k t393 t394 t397 t400 t403 t406 (decide ((t406.length : Int) > 16))))) else (l11_SpanSets.j0 k t393 t394 t397 t400 t403 t406 true))) else (l11_SpanSets.j0 k t393 t394 t397 t400 t403 t406 true))) else (l11_SpanSets.j0 k t393 t394 t397 t400 t403 t406 true))))))))) = some r := h
 clear h
 replace H := Option.bind_eq_some_iff.mp H
 obtain ⟨t393, A30, H⟩ := H
 replace H : ((r11_Made.f k l0).bind fun t394 => ((r11_Made.f k l1).bind fun t397 => ((span_Union.f t394 t397).bind fun t400 => ((span_Meet.f t394 t397).bind fun t403 => ((span_Minus.f t394 t397).bind fun t406 => ((r11_Valid.f k t400).bind fun t409 => (if t409 = true then ((r11_Valid.f k t403).bind fun t410 => (if t410 = true then ((r11_Valid.f k t406).bind fun t411 => (if t411 = true then (if (t400.length : Int) > 16 then (l11_SpanSets.j0 k t393 t394 t397 t400 t403 t406 true) else (if (t403.length : Int) > 16 then (l11_SpanSets.j0 k t393 t394 t397 t400 t403 t406 true) else (l11_SpanSets.j0 k t393 t394 t397 t400 t403 t406 (decide ((t406.length : Int) > 16))))) else (l11_SpanSets.j0 k t393 t394 t397 t400 t403 t406 true))) else (l11_SpanSets.j0 k t393 t394 t397 t400 t403 t406 true))) else (l11_SpanSets.j0 k t393 t394 t397 t400 t403 t406 true)))))))) = some r := H
 have A3 := Aside0.mk A30
 clear A30
 replace H := Option.bind_eq_some_iff.mp H
 obtain ⟨t394, A40, H⟩ := H
 replace H : ((r11_Made.f k l1).bind fun t397 => ((span_Union.f t394 t397).bind fun t400 => ((span_Meet.f t394 t397).bind fun t403 => ((span_Minus.f t394 t397).bind fun t406 => ((r11_Valid.f k t400).bind fun t409 => (if t409 = true then ((r11_Valid.f k t403).bind fun t410 => (if t410 = true then ((r11_Valid.f k t406).bind fun t411 => (if t411 = true then (if (t400.length : Int) > 16 then (l11_SpanSets.j0 k t393 t394 t397 t400 t403 t406 true) else (if (t403.length : Int) > 16 then (l11_SpanSets.j0 k t393 t394 t397 t400 t403 t406 true) else (l11_SpanSets.j0 k t393 t394 t397 t400 t403 t406 (decide ((t406.length : Int) > 16))))) else (l11_SpanSets.j0 k t393 t394 t397 t400 t403 t406 true))) else (l11_SpanSets.j0 k t393 t394 t397 t400 t403 t406 true))) else (l11_SpanSets.j0 k t393 t394 t397 t400 t403 t406 true))))))) = some r := H
 have A4 := Aside0.mk A40
 clear A40
 replace H := Option.bind_eq_some_iff.mp H
 obtain ⟨t397, A50, H⟩ := H
 replace H : ((span_Union.f t394 t397).bind fun t400 => ((span_Meet.f t394 t397).bind fun t403 => ((span_Minus.f t394 t397).bind fun t406 => ((r11_Valid.f k t400).bind fun t409 => (if t409 = true then ((r11_Valid.f k t403).bind fun t410 => (if t410 = true then ((r11_Valid.f k t406).bind fun t411 => (if t411 = true then (if (t400.length : Int) > 16 then (l11_SpanSets.j0 k t393 t394 t397 t400 t403 t406 true) else (if (t403.length : Int) > 16 then (l11_SpanSets.j0 k t393 t394 t397 t400 t403 t406 true) else (l11_SpanSets.j0 k t393 t394 t397 t400 t403 t406 (decide ((t406.length : Int) > 16))))) else (l11_SpanSets.j0 k t393 t394 t397 t400 t403 t406 true))) else (l11_SpanSets.j0 k t393 t394 t397 t400 t403 t406 true))) else (l11_SpanSets.j0 k t393 t394 t397 t400 t403 t406 true)))))) = some r := H
 have A5 := Aside0.mk A50
 clear A50
 replace H := Option.bind_eq_some_iff.mp H
 obtain ⟨t400, A60, H⟩ := H
 replace H : ((span_Meet.f t394 t397).bind fun t403 => ((span_Minus.f t394 t397).bind fun t406 => ((r11_Valid.f k t400).bind fun t409 => (if t409 = true then ((r11_Valid.f k t403).bind fun t410 => (if t410 = true then ((r11_Valid.f k t406).bind fun t411 => (if t411 = true then (if (t400.length : Int) > 16 then (l11_SpanSets.j0 k t393 t394 t397 t400 t403 t406 true) else (if (t403.length : Int) > 16 then (l11_SpanSets.j0 k t393 t394 t397 t400 t403 t406 true) else (l11_SpanSets.j0 k t393 t394 t397 t400 t403 t406 (decide ((t406.length : Int) > 16))))) else (l11_SpanSets.j0 k t393 t394 t397 t400 t403 t406 true))) else (l11_SpanSets.j0 k t393 t394 t397 t400 t403 t406 true))) else (l11_SpanSets.j0 k t393 t394 t397 t400 t403 t406 true))))) = some r := H
 have A6 := Aside0.mk A60
 clear A60
 replace H := Option.bind_eq_some_iff.mp H
 obtain ⟨t403, A70, H⟩ := H
 replace H : ((span_Minus.f t394 t397).bind fun t406 => ((r11_Valid.f k t400).bind fun t409 => (if t409 = true then ((r11_Valid.f k t403).bind fun t410 => (if t410 = true then ((r11_Valid.f k t406).bind fun t411 => (if t411 = true then (if (t400.length : Int) > 16 then (l11_SpanSets.j0 k t393 t394 t397 t400 t403 t406 true) else (if (t403.length : Int) > 16 then (l11_SpanSets.j0 k t393 t394 t397 t400 t403 t406 true) else (l11_SpanSets.j0 k t393 t394 t397 t400 t403 t406 (decide ((t406.length : Int) > 16))))) else (l11_SpanSets.j0 k t393 t394 t397 t400 t403 t406 true))) else (l11_SpanSets.j0 k t393 t394 t397 t400 t403 t406 true))) else (l11_SpanSets.j0 k t393 t394 t397 t400 t403 t406 true)))) = some r := H
 have A7 := Aside0.mk A70
 clear A70
 replace H := Option.bind_eq_some_iff.mp H
 obtain ⟨t406, A80, H⟩ := H
 replace H : ((r11_Valid.f k t400).bind fun t409 => (if t409 = true then ((r11_Valid.f k t403).bind fun t410 => (if t410 = true then ((r11_Valid.f k t406).bind fun t411 => (if t411 = true then (if (t400.length : Int) > 16 then (l11_SpanSets.j0 k t393 t394 t397 t400 t403 t406 true) else (if (t403.length : Int) > 16 then (l11_SpanSets.j0 k t393 t394 t397 t400 t403 t406 true) else (l11_SpanSets.j0 k t393 t394 t397 t400 t403 t406 (decide ((t406.length : Int) > 16))))) else (l11_SpanSets.j0 k t393 t394 t397 t400 t403 t406 true))) else (l11_SpanSets.j0 k t393 t394 t397 t400 t403 t406 true))) else (l11_SpanSets.j0 k t393 t394 t397 t400 t403 t406 true))) = some r := H
 have A8 := Aside0.mk A80
 clear A80
 have HC9 := Aside0.mk H
 clear H
 go_enter Try.func5, Try.ntmps5
 go_upto_region 4 with (first | ((with_reducible refine gate_callee (f := 10) rfl ?_); refine goesL_ (some 14) rfl rfl Try.func10 (by kernel_rfl) rfl #[] rfl (by (try simp only [List.map_toArray, List.map_cons, List.map_nil]); first | done | rfl | (simp only [List.length_drop, List.length_take]; rfl)) ?_; (with_reducible refine (l11_sanity.calls k  t393 _ A3.out).mono ?_); rintro e w10 ⟨rfl, hb⟩; refine ⟨_, rfl, ?_⟩; have n0_ := Aside0.mk (below_step (bZ HB.out) hb); clear HB; have HB := n0_; clear n0_; (try clear hb); (try clear hb2); (try clear hk); (try clear hi)) | ((with_reducible refine gate_callee (f := 23) rfl ?_); refine goesL_ (some 16) rfl rfl Try.func23 (by kernel_rfl) rfl #[.slice A0 l0.length c0] rfl (by (try simp only [List.map_toArray, List.map_cons, List.map_nil]); first | done | rfl | (simp only [List.length_drop, List.length_take]; rfl)) ?_; (with_reducible refine (r11_Made.calls k _ _ l0 t394 _ ?side1 ?side2 A4.out).mono ?_); (case side1 => repeat (first | exact (Kd.C_below HR0.out HB.out) | (with_reducible refine Kd.C_alloc ?_ _) | (with_reducible refine Kd.C_drewN ?_ _) | (with_reducible refine Kd.C_drew ?_))); (case side2 => exact HC0.out); rintro e w11 ⟨v395, rfl, ho0, hb⟩; refine ⟨_, rfl, ?_⟩; have n0_ := Aside0.mk (Kd.R_lower ho0 (below_size (bZ HB.out))); have n1_ := Aside0.mk (below_step (bZ HB.out) hb); clear HB; have HO396 := n0_; have HB := n1_; clear n0_ n1_; (try clear hb); (try clear hb2); (try clear hk); (try clear hi); (try clear ho0)) | ((with_reducible refine gate_callee (f := 23) rfl ?_); refine goesL_ (some 18) rfl rfl Try.func23 (by kernel_rfl) rfl #[.slice A1 l1.length c1] rfl (by (try simp only [List.map_toArray, List.map_cons, List.map_nil]); first | done | rfl | (simp only [List.length_drop, List.length_take]; rfl)) ?_; (with_reducible refine (r11_Made.calls k _ _ l1 t397 _ ?side1 ?side2 A5.out).mono ?_); (case side1 => repeat (first | exact (Kd.C_below HR1.out HB.out) | (with_reducible refine Kd.C_alloc ?_ _) | (with_reducible refine Kd.C_drewN ?_ _) | (with_reducible refine Kd.C_drew ?_))); (case side2 => exact HC1.out); rintro e w12 ⟨v398, rfl, ho0, hb⟩; refine ⟨_, rfl, ?_⟩; have n0_ := Aside0.mk (Kd.R_elder' (rZ HO396.out) (Kd.R_base ho0) hb); have n1_ := Aside0.mk (Kd.R_lower (Kd.R_new' ho0 (Kd.R_lt (rZ HO396.out))) (below_size (bZ HB.out))); have n2_ := Aside0.mk (below_step (bZ HB.out) hb); clear HO396; clear HB; have HO396 := n0_; have HO399 := n1_; have HB := n2_; clear n0_ n1_ n2_; (try clear hb); (try clear hb2); (try clear hk); (try clear hi); (try clear ho0); obtain ⟨Ao13, co13, eo13⟩ := Kd.R_slice HO396.out; subst eo13; obtain ⟨Ao14, co14, eo14⟩ := Kd.R_slice HO399.out; subst eo14) | ((with_reducible refine gate_callee (f := 17) rfl ?_); refine goesL_ (some 21) rfl rfl Try.func17 (by kernel_rfl) rfl #[.slice Ao13 t394.length co13, .slice Ao14 t397.length co14] rfl (by (try simp only [List.map_toArray, List.map_cons, List.map_nil]); first | done | rfl | (simp only [List.length_drop, List.length_take]; rfl)) ?_; (with_reducible refine (span_Union.calls _ _ t394 _ _ t397 t400 _ ?side1 ?side2 ?side3 ?side4 A6.out).mono ?_); (case side1 => repeat (first | exact (Kd.R_reads' HO396.out).2.2 | (with_reducible refine Kd.C_alloc ?_ _) | (with_reducible refine Kd.C_drewN ?_ _) | (with_reducible refine Kd.C_drew ?_))); (case side2 => exact (Kd.R_reads' HO396.out).2.1); (case side3 => repeat (first | exact (Kd.R_reads' HO399.out).2.2 | (with_reducible refine Kd.C_alloc ?_ _) | (with_reducible refine Kd.C_drewN ?_ _) | (with_reducible refine Kd.C_drew ?_))); (case side4 => exact (Kd.R_reads' HO399.out).2.1); rintro e w15 ⟨v401, rfl, ho0, hb⟩; refine ⟨_, rfl, ?_⟩; have n0_ := Aside0.mk (Kd.R_elder' (rZ HO396.out) (Kd.R_base ho0) hb); have n1_ := Aside0.mk (Kd.R_elder' (rZ HO399.out) (Kd.R_base ho0) hb); have n2_ := Aside0.mk (Kd.R_lower (Kd.R_new' (Kd.R_new' ho0 (Kd.R_lt (rZ HO396.out))) (Kd.R_lt (rZ HO399.out))) (below_size (bZ HB.out))); have n3_ := Aside0.mk (below_step (bZ HB.out) hb); clear HO396; clear HO399; clear HB; have HO396 := n0_; have HO399 := n1_; have HO402 := n2_; have HB := n3_; clear n0_ n1_ n2_ n3_; (try clear hb); (try clear hb2); (try clear hk); (try clear hi); (try clear ho0)) | ((with_reducible refine gate_callee (f := 19) rfl ?_); refine goesL_ (some 24) rfl rfl Try.func19 (by kernel_rfl) rfl #[.slice Ao13 t394.length co13, .slice Ao14 t397.length co14] rfl (by (try simp only [List.map_toArray, List.map_cons, List.map_nil]); first | done | rfl | (simp only [List.length_drop, List.length_take]; rfl)) ?_; (with_reducible refine (span_Meet.calls _ _ t394 _ _ t397 t403 _ ?side1 ?side2 ?side3 ?side4 A7.out).mono ?_); (case side1 => repeat (first | exact (Kd.R_reads' HO396.out).2.2 | (with_reducible refine Kd.C_alloc ?_ _) | (with_reducible refine Kd.C_drewN ?_ _) | (with_reducible refine Kd.C_drew ?_))); (case side2 => exact (Kd.R_reads' HO396.out).2.1); (case side3 => repeat (first | exact (Kd.R_reads' HO399.out).2.2 | (with_reducible refine Kd.C_alloc ?_ _) | (with_reducible refine Kd.C_drewN ?_ _) | (with_reducible refine Kd.C_drew ?_))); (case side4 => exact (Kd.R_reads' HO399.out).2.1); rintro e w16 ⟨v404, rfl, ho0, hb⟩; refine ⟨_, rfl, ?_⟩; have n0_ := Aside0.mk (Kd.R_elder' (rZ HO396.out) (Kd.R_base ho0) hb); have n1_ := Aside0.mk (Kd.R_elder' (rZ HO399.out) (Kd.R_base ho0) hb); have n2_ := Aside0.mk (Kd.R_elder' (rZ HO402.out) (Kd.R_base ho0) hb); have n3_ := Aside0.mk (Kd.R_lower (Kd.R_new' (Kd.R_new' (Kd.R_new' ho0 (Kd.R_lt (rZ HO396.out))) (Kd.R_lt (rZ HO399.out))) (Kd.R_lt (rZ HO402.out))) (below_size (bZ HB.out))); have n4_ := Aside0.mk (below_step (bZ HB.out) hb); clear HO396; clear HO399; clear HO402; clear HB; have HO396 := n0_; have HO399 := n1_; have HO402 := n2_; have HO405 := n3_; have HB := n4_; clear n0_ n1_ n2_ n3_ n4_; (try clear hb); (try clear hb2); (try clear hk); (try clear hi); (try clear ho0)) | ((with_reducible refine gate_callee (f := 21) rfl ?_); refine goesL_ (some 27) rfl rfl Try.func21 (by kernel_rfl) rfl #[.slice Ao13 t394.length co13, .slice Ao14 t397.length co14] rfl (by (try simp only [List.map_toArray, List.map_cons, List.map_nil]); first | done | rfl | (simp only [List.length_drop, List.length_take]; rfl)) ?_; (with_reducible refine (span_Minus.calls _ _ t394 _ _ t397 t406 _ ?side1 ?side2 ?side3 ?side4 A8.out).mono ?_); (case side1 => repeat (first | exact (Kd.R_reads' HO396.out).2.2 | (with_reducible refine Kd.C_alloc ?_ _) | (with_reducible refine Kd.C_drewN ?_ _) | (with_reducible refine Kd.C_drew ?_))); (case side2 => exact (Kd.R_reads' HO396.out).2.1); (case side3 => repeat (first | exact (Kd.R_reads' HO399.out).2.2 | (with_reducible refine Kd.C_alloc ?_ _) | (with_reducible refine Kd.C_drewN ?_ _) | (with_reducible refine Kd.C_drew ?_))); (case side4 => exact (Kd.R_reads' HO399.out).2.1); rintro e w17 ⟨v407, rfl, ho0, hb⟩; refine ⟨_, rfl, ?_⟩; have n0_ := Aside0.mk (Kd.R_elder' (rZ HO396.out) (Kd.R_base ho0) hb); have n1_ := Aside0.mk (Kd.R_elder' (rZ HO399.out) (Kd.R_base ho0) hb); have n2_ := Aside0.mk (Kd.R_elder' (rZ HO402.out) (Kd.R_base ho0) hb); have n3_ := Aside0.mk (Kd.R_elder' (rZ HO405.out) (Kd.R_base ho0) hb); have n4_ := Aside0.mk (Kd.R_lower (Kd.R_new' (Kd.R_new' (Kd.R_new' (Kd.R_new' ho0 (Kd.R_lt (rZ HO396.out))) (Kd.R_lt (rZ HO399.out))) (Kd.R_lt (rZ HO402.out))) (Kd.R_lt (rZ HO405.out))) (below_size (bZ HB.out))); have n5_ := Aside0.mk (below_step (bZ HB.out) hb); clear HO396; clear HO399; clear HO402; clear HO405; clear HB; have HO396 := n0_; have HO399 := n1_; have HO402 := n2_; have HO405 := n3_; have HO408 := n4_; have HB := n5_; clear n0_ n1_ n2_ n3_ n4_ n5_; (try clear hb); (try clear hb2); (try clear hk); (try clear hi); (try clear ho0)))
 (try simp only [Act.put, List.setIfInBounds_toArray, List.set_cons_zero, List.set_cons_succ])
 go_cut [55] (fun v55 wc => ∃ (kq : Nat) (x55_8 : Bool), v55 = .bool x55_8 ∧ Aside0 (l11_SpanSets.j0 kq t393 t394 t397 t400 t403 t406 x55_8 = some r) ∧ Aside0 (kq ≤ k) ∧ Aside0 (Kd.R k24 24 wc w.heap.size (fun k_ => some k_ ≠ ((.slice Ao14 t397.length co14) : Value).ownBlock ∧ some k_ ≠ (v401 : Value).ownBlock ∧ some k_ ≠ (v404 : Value).ownBlock ∧ some k_ ≠ (v407 : Value).ownBlock) (.slice Ao13 t394.length co13) t394) ∧ Aside0 (Kd.R k24 24 wc w.heap.size (fun k_ => some k_ ≠ ((.slice Ao13 t394.length co13) : Value).ownBlock ∧ some k_ ≠ (v401 : Value).ownBlock ∧ some k_ ≠ (v404 : Value).ownBlock ∧ some k_ ≠ (v407 : Value).ownBlock) (.slice Ao14 t397.length co14) t397) ∧ Aside0 (Kd.R k24 24 wc w.heap.size (fun k_ => some k_ ≠ ((.slice Ao13 t394.length co13) : Value).ownBlock ∧ some k_ ≠ ((.slice Ao14 t397.length co14) : Value).ownBlock ∧ some k_ ≠ (v404 : Value).ownBlock ∧ some k_ ≠ (v407 : Value).ownBlock) v401 t400) ∧ Aside0 (Kd.R k24 24 wc w.heap.size (fun k_ => some k_ ≠ ((.slice Ao13 t394.length co13) : Value).ownBlock ∧ some k_ ≠ ((.slice Ao14 t397.length co14) : Value).ownBlock ∧ some k_ ≠ (v401 : Value).ownBlock ∧ some k_ ≠ (v407 : Value).ownBlock) v404 t403) ∧ Aside0 (Kd.R k24 24 wc w.heap.size (fun k_ => some k_ ≠ ((.slice Ao13 t394.length co13) : Value).ownBlock ∧ some k_ ≠ ((.slice Ao14 t397.length co14) : Value).ownBlock ∧ some k_ ≠ (v401 : Value).ownBlock ∧ some k_ ≠ (v404 : Value).ownBlock) v407 t406) ∧ Aside0 (Below w.heap.size w wc))
 case first =>
  have H := HC9.out
  clear HC9
  replace H := Option.bind_eq_some_iff.mp H
  obtain ⟨t409, A180, H⟩ := H
  replace H : (if t409 = true then ((r11_Valid.f k t403).bind fun t410 => (if t410 = true then ((r11_Valid.f k t406).bind fun t411 => (if t411 = true then (if (t400.length : Int) > 16 then (l11_SpanSets.j0 k t393 t394 t397 t400 t403 t406 true) else (if (t403.length : Int) > 16 then (l11_SpanSets.j0 k t393 t394 t397 t400 t403 t406 true) else (l11_SpanSets.j0 k t393 t394 t397 t400 t403 t406 (decide ((t406.length : Int) > 16))))) else (l11_SpanSets.j0 k t393 t394 t397 t400 t403 t406 true))) else (l11_SpanSets.j0 k t393 t394 t397 t400 t403 t406 true))) else (l11_SpanSets.j0 k t393 t394 t397 t400 t403 t406 true)) = some r := H
  have A18 := Aside0.mk A180
  clear A180
  by_cases c19 : t409 = true
  ·subst c19
   have H1 : ((r11_Valid.f k t403).bind fun t410 => (if t410 = true then ((r11_Valid.f k t406).bind fun t411 => (if t411 = true then (if (t400.length : Int) > 16 then (l11_SpanSets.j0 k t393 t394 t397 t400 t403 t406 true) else (if (t403.length : Int) > 16 then (l11_SpanSets.j0 k t393 t394 t397 t400 t403 t406 true) else (l11_SpanSets.j0 k t393 t394 t397 t400 t403 t406 (decide ((t406.length : Int) > 16))))) else (l11_SpanSets.j0 k t393 t394 t397 t400 t403 t406 true))) else (l11_SpanSets.j0 k t393 t394 t397 t400 t403 t406 true))) = some r := by rw [if_pos rfl] at H; exact H
   clear H
   have H := H1
   clear H1
   replace H := Option.bind_eq_some_iff.mp H
   obtain ⟨t410, A200, H⟩ := H
   replace H : (if t410 = true then ((r11_Valid.f k t406).bind fun t411 => (if t411 = true then (if (t400.length : Int) > 16 then (l11_SpanSets.j0 k t393 t394 t397 t400 t403 t406 true) else (if (t403.length : Int) > 16 then (l11_SpanSets.j0 k t393 t394 t397 t400 t403 t406 true) else (l11_SpanSets.j0 k t393 t394 t397 t400 t403 t406 (decide ((t406.length : Int) > 16))))) else (l11_SpanSets.j0 k t393 t394 t397 t400 t403 t406 true))) else (l11_SpanSets.j0 k t393 t394 t397 t400 t403 t406 true)) = some r := H
   have A20 := Aside0.mk A200
   clear A200
   by_cases c21 : t410 = true
   ·subst c21
    have H1 : ((r11_Valid.f k t406).bind fun t411 => (if t411 = true then (if (t400.length : Int) > 16 then (l11_SpanSets.j0 k t393 t394 t397 t400 t403 t406 true) else (if (t403.length : Int) > 16 then (l11_SpanSets.j0 k t393 t394 t397 t400 t403 t406 true) else (l11_SpanSets.j0 k t393 t394 t397 t400 t403 t406 (decide ((t406.length : Int) > 16))))) else (l11_SpanSets.j0 k t393 t394 t397 t400 t403 t406 true))) = some r := by rw [if_pos rfl] at H; exact H
    clear H
    have H := H1
    clear H1
    replace H := Option.bind_eq_some_iff.mp H
    obtain ⟨t411, A220, H⟩ := H
    replace H : (if t411 = true then (if (t400.length : Int) > 16 then (l11_SpanSets.j0 k t393 t394 t397 t400 t403 t406 true) else (if (t403.length : Int) > 16 then (l11_SpanSets.j0 k t393 t394 t397 t400 t403 t406 true) else (l11_SpanSets.j0 k t393 t394 t397 t400 t403 t406 (decide ((t406.length : Int) > 16))))) else (l11_SpanSets.j0 k t393 t394 t397 t400 t403 t406 true)) = some r := H
    have A22 := Aside0.mk A220
    clear A220
    by_cases c23 : t411 = true
    ·subst c23
     have H1 : (if (t400.length : Int) > 16 then (l11_SpanSets.j0 k t393 t394 t397 t400 t403 t406 true) else (if (t403.length : Int) > 16 then (l11_SpanSets.j0 k t393 t394 t397 t400 t403 t406 true) else (l11_SpanSets.j0 k t393 t394 t397 t400 t403 t406 (decide ((t406.length : Int) > 16))))) = some r := by rw [if_pos rfl] at H; exact H
     clear H
     have H := H1
     clear H1
     by_cases c24 : (t400.length : Int) > 16
     ·rw [if_pos c24] at H
      have c24b0 : decide (16 < (t400.length : Int)) = true := decide_eq_true c24
      have c24b1 : decide (16 < t400.length) = true := decide_eq_true (by omega)
      clear c24
      (first | rw [c24b0] | (simp only [i64_w, i32_w]; rw [c24b0]) | skip)
      have H' := Aside0.mk H
      clear H
      obtain ⟨Ao25, co25, eo25⟩ := Kd.R_slice HO402.out
      subst eo25
      go_wp2_with (first | ((with_reducible refine gate_callee (f := 13) rfl ?_); refine goesL_ (some 29) rfl rfl Try.func13 (by kernel_rfl) rfl #[.slice Ao25 t400.length co25] rfl (by (try simp only [List.map_toArray, List.map_cons, List.map_nil]); first | done | rfl | (simp only [List.length_drop, List.length_take]; rfl)) ?_; (with_reducible refine (r11_Valid.calls k _ _ t400 true _ ?side1 ?side2 A18.out).mono ?_); (case side1 => repeat (first | exact (Kd.R_reads' HO402.out).2.2 | (with_reducible refine Kd.C_alloc ?_ _) | (with_reducible refine Kd.C_drewN ?_ _) | (with_reducible refine Kd.C_drew ?_))); (case side2 => exact (Kd.R_reads' HO402.out).2.1); rintro e w' ⟨rfl, ⟨nd, rfl⟩⟩; refine ⟨_, rfl, ?_⟩; obtain ⟨Ao26, co26, eo26⟩ := Kd.R_slice HO405.out; subst eo26) | (go_at_call 13; (with_reducible refine (r11_Valid.calls k _ _ t403 true _ ?side1 ?side2 A20.out).mono ?_); (case side1 => repeat (first | exact (Kd.R_reads' HO405.out).2.2 | (with_reducible refine Kd.C_alloc ?_ _) | (with_reducible refine Kd.C_drewN ?_ _) | (with_reducible refine Kd.C_drew ?_))); (case side2 => exact (Kd.R_reads' HO405.out).2.1); rintro e w' ⟨rfl, ⟨nd, rfl⟩⟩; obtain ⟨Ao27, co27, eo27⟩ := Kd.R_slice HO408.out; subst eo27) | (go_at_call 13; (with_reducible refine (r11_Valid.calls k _ _ t406 true _ ?side1 ?side2 A22.out).mono ?_); (case side1 => repeat (first | exact (Kd.R_reads' HO408.out).2.2 | (with_reducible refine Kd.C_alloc ?_ _) | (with_reducible refine Kd.C_drewN ?_ _) | (with_reducible refine Kd.C_drew ?_))); (case side2 => exact (Kd.R_reads' HO408.out).2.1); rintro e w' ⟨rfl, ⟨nd, rfl⟩⟩))
      go_meet
      case rel => exact ⟨_, (true), (by first | rfl | (simp; done) | (simp [*]; done)), H', ⟨by first | omega | exact Nat.le_refl _⟩, ⟨by (with_reducible repeat (first | apply Kd.R_alloc | apply Kd.R_drewN | apply Kd.R_drew)); exact Kd.R_mono HO396.out (fun _ hk => ⟨hk.1.1.1.2, ⟨hk.1.1.2, ⟨hk.1.2, hk.2⟩⟩⟩)⟩, ⟨by (with_reducible repeat (first | apply Kd.R_alloc | apply Kd.R_drewN | apply Kd.R_drew)); exact Kd.R_mono HO399.out (fun _ hk => ⟨hk.1.1.1.2, ⟨hk.1.1.2, ⟨hk.1.2, hk.2⟩⟩⟩)⟩, ⟨by (with_reducible repeat (first | apply Kd.R_alloc | apply Kd.R_drewN | apply Kd.R_drew)); exact Kd.R_mono HO402.out (fun _ hk => ⟨hk.1.1.1.2, ⟨hk.1.1.2, ⟨hk.1.2, hk.2⟩⟩⟩)⟩, ⟨by (with_reducible repeat (first | apply Kd.R_alloc | apply Kd.R_drewN | apply Kd.R_drew)); exact Kd.R_mono HO405.out (fun _ hk => ⟨hk.1.1.1.2, ⟨hk.1.1.2, ⟨hk.1.2, hk.2⟩⟩⟩)⟩, ⟨by (with_reducible repeat (first | apply Kd.R_alloc | apply Kd.R_drewN | apply Kd.R_drew)); exact Kd.R_mono HO408.out (fun _ hk => ⟨hk.1.1.1.2, ⟨hk.1.1.2, ⟨hk.1.2, hk.2⟩⟩⟩)⟩, ⟨by repeat (first | (with_reducible first | exact HB.out | apply below_alloc | apply pw_below_drewN | apply below_drew1) | exact HB.out)⟩⟩
     ·rw [if_neg c24] at H
      have c24b0 : decide (16 < (t400.length : Int)) = false := decide_eq_false c24
      have c24b1 : decide (16 < t400.length) = false := decide_eq_false (by omega)
      clear c24
      (first | rw [c24b0] | (simp only [i64_w, i32_w]; rw [c24b0]) | skip)
      by_cases c28 : (t403.length : Int) > 16
      ·rw [if_pos c28] at H
       have c28b0 : decide (16 < (t403.length : Int)) = true := decide_eq_true c28
       have c28b1 : decide (16 < t403.length) = true := decide_eq_true (by omega)
       clear c28
       have H' := Aside0.mk H
       clear H
       obtain ⟨Ao29, co29, eo29⟩ := Kd.R_slice HO402.out
       subst eo29
       go_wp2_with (first | ((with_reducible refine gate_callee (f := 13) rfl ?_); refine goesL_ (some 29) rfl rfl Try.func13 (by kernel_rfl) rfl #[.slice Ao29 t400.length co29] rfl (by (try simp only [List.map_toArray, List.map_cons, List.map_nil]); first | done | rfl | (simp only [List.length_drop, List.length_take]; rfl)) ?_; (with_reducible refine (r11_Valid.calls k _ _ t400 true _ ?side1 ?side2 A18.out).mono ?_); (case side1 => repeat (first | exact (Kd.R_reads' HO402.out).2.2 | (with_reducible refine Kd.C_alloc ?_ _) | (with_reducible refine Kd.C_drewN ?_ _) | (with_reducible refine Kd.C_drew ?_))); (case side2 => exact (Kd.R_reads' HO402.out).2.1); rintro e w' ⟨rfl, ⟨nd, rfl⟩⟩; refine ⟨_, rfl, ?_⟩; obtain ⟨Ao30, co30, eo30⟩ := Kd.R_slice HO405.out; subst eo30) | (go_at_call 13; (with_reducible refine (r11_Valid.calls k _ _ t403 true _ ?side1 ?side2 A20.out).mono ?_); (case side1 => repeat (first | exact (Kd.R_reads' HO405.out).2.2 | (with_reducible refine Kd.C_alloc ?_ _) | (with_reducible refine Kd.C_drewN ?_ _) | (with_reducible refine Kd.C_drew ?_))); (case side2 => exact (Kd.R_reads' HO405.out).2.1); rintro e w' ⟨rfl, ⟨nd, rfl⟩⟩; obtain ⟨Ao31, co31, eo31⟩ := Kd.R_slice HO408.out; subst eo31) | (go_at_call 13; (with_reducible refine (r11_Valid.calls k _ _ t406 true _ ?side1 ?side2 A22.out).mono ?_); (case side1 => repeat (first | exact (Kd.R_reads' HO408.out).2.2 | (with_reducible refine Kd.C_alloc ?_ _) | (with_reducible refine Kd.C_drewN ?_ _) | (with_reducible refine Kd.C_drew ?_))); (case side2 => exact (Kd.R_reads' HO408.out).2.1); rintro e w' ⟨rfl, ⟨nd, rfl⟩⟩))
       go_meet
       case rel => exact ⟨_, (true), (by first | rfl | (simp; done) | (simp [*]; done)), H', ⟨by first | omega | exact Nat.le_refl _⟩, ⟨by (with_reducible repeat (first | apply Kd.R_alloc | apply Kd.R_drewN | apply Kd.R_drew)); exact Kd.R_mono HO396.out (fun _ hk => ⟨hk.1.1.1.2, ⟨hk.1.1.2, ⟨hk.1.2, hk.2⟩⟩⟩)⟩, ⟨by (with_reducible repeat (first | apply Kd.R_alloc | apply Kd.R_drewN | apply Kd.R_drew)); exact Kd.R_mono HO399.out (fun _ hk => ⟨hk.1.1.1.2, ⟨hk.1.1.2, ⟨hk.1.2, hk.2⟩⟩⟩)⟩, ⟨by (with_reducible repeat (first | apply Kd.R_alloc | apply Kd.R_drewN | apply Kd.R_drew)); exact Kd.R_mono HO402.out (fun _ hk => ⟨hk.1.1.1.2, ⟨hk.1.1.2, ⟨hk.1.2, hk.2⟩⟩⟩)⟩, ⟨by (with_reducible repeat (first | apply Kd.R_alloc | apply Kd.R_drewN | apply Kd.R_drew)); exact Kd.R_mono HO405.out (fun _ hk => ⟨hk.1.1.1.2, ⟨hk.1.1.2, ⟨hk.1.2, hk.2⟩⟩⟩)⟩, ⟨by (with_reducible repeat (first | apply Kd.R_alloc | apply Kd.R_drewN | apply Kd.R_drew)); exact Kd.R_mono HO408.out (fun _ hk => ⟨hk.1.1.1.2, ⟨hk.1.1.2, ⟨hk.1.2, hk.2⟩⟩⟩)⟩, ⟨by repeat (first | (with_reducible first | exact HB.out | apply below_alloc | apply pw_below_drewN | apply below_drew1) | exact HB.out)⟩⟩
      ·rw [if_neg c28] at H
       have c28b0 : decide (16 < (t403.length : Int)) = false := decide_eq_false c28
       have c28b1 : decide (16 < t403.length) = false := decide_eq_false (by omega)
       clear c28
       have H' := Aside0.mk H
       clear H
       obtain ⟨Ao32, co32, eo32⟩ := Kd.R_slice HO402.out
       subst eo32
       go_wp2_with (first | ((with_reducible refine gate_callee (f := 13) rfl ?_); refine goesL_ (some 29) rfl rfl Try.func13 (by kernel_rfl) rfl #[.slice Ao32 t400.length co32] rfl (by (try simp only [List.map_toArray, List.map_cons, List.map_nil]); first | done | rfl | (simp only [List.length_drop, List.length_take]; rfl)) ?_; (with_reducible refine (r11_Valid.calls k _ _ t400 true _ ?side1 ?side2 A18.out).mono ?_); (case side1 => repeat (first | exact (Kd.R_reads' HO402.out).2.2 | (with_reducible refine Kd.C_alloc ?_ _) | (with_reducible refine Kd.C_drewN ?_ _) | (with_reducible refine Kd.C_drew ?_))); (case side2 => exact (Kd.R_reads' HO402.out).2.1); rintro e w' ⟨rfl, ⟨nd, rfl⟩⟩; refine ⟨_, rfl, ?_⟩; obtain ⟨Ao33, co33, eo33⟩ := Kd.R_slice HO405.out; subst eo33) | (go_at_call 13; (with_reducible refine (r11_Valid.calls k _ _ t403 true _ ?side1 ?side2 A20.out).mono ?_); (case side1 => repeat (first | exact (Kd.R_reads' HO405.out).2.2 | (with_reducible refine Kd.C_alloc ?_ _) | (with_reducible refine Kd.C_drewN ?_ _) | (with_reducible refine Kd.C_drew ?_))); (case side2 => exact (Kd.R_reads' HO405.out).2.1); rintro e w' ⟨rfl, ⟨nd, rfl⟩⟩; obtain ⟨Ao34, co34, eo34⟩ := Kd.R_slice HO408.out; subst eo34) | (go_at_call 13; (with_reducible refine (r11_Valid.calls k _ _ t406 true _ ?side1 ?side2 A22.out).mono ?_); (case side1 => repeat (first | exact (Kd.R_reads' HO408.out).2.2 | (with_reducible refine Kd.C_alloc ?_ _) | (with_reducible refine Kd.C_drewN ?_ _) | (with_reducible refine Kd.C_drew ?_))); (case side2 => exact (Kd.R_reads' HO408.out).2.1); rintro e w' ⟨rfl, ⟨nd, rfl⟩⟩))
       go_meet
       case rel => exact ⟨_, (decide ((t406.length : Int) > 16)), (by first | rfl | (simp; done) | (simp [*]; done)), H', ⟨by first | omega | exact Nat.le_refl _⟩, ⟨by (with_reducible repeat (first | apply Kd.R_alloc | apply Kd.R_drewN | apply Kd.R_drew)); exact Kd.R_mono HO396.out (fun _ hk => ⟨hk.1.1.1.2, ⟨hk.1.1.2, ⟨hk.1.2, hk.2⟩⟩⟩)⟩, ⟨by (with_reducible repeat (first | apply Kd.R_alloc | apply Kd.R_drewN | apply Kd.R_drew)); exact Kd.R_mono HO399.out (fun _ hk => ⟨hk.1.1.1.2, ⟨hk.1.1.2, ⟨hk.1.2, hk.2⟩⟩⟩)⟩, ⟨by (with_reducible repeat (first | apply Kd.R_alloc | apply Kd.R_drewN | apply Kd.R_drew)); exact Kd.R_mono HO402.out (fun _ hk => ⟨hk.1.1.1.2, ⟨hk.1.1.2, ⟨hk.1.2, hk.2⟩⟩⟩)⟩, ⟨by (with_reducible repeat (first | apply Kd.R_alloc | apply Kd.R_drewN | apply Kd.R_drew)); exact Kd.R_mono HO405.out (fun _ hk => ⟨hk.1.1.1.2, ⟨hk.1.1.2, ⟨hk.1.2, hk.2⟩⟩⟩)⟩, ⟨by (with_reducible repeat (first | apply Kd.R_alloc | apply Kd.R_drewN | apply Kd.R_drew)); exact Kd.R_mono HO408.out (fun _ hk => ⟨hk.1.1.1.2, ⟨hk.1.1.2, ⟨hk.1.2, hk.2⟩⟩⟩)⟩, ⟨by repeat (first | (with_reducible first | exact HB.out | apply below_alloc | apply pw_below_drewN | apply below_drew1) | exact HB.out)⟩⟩
    ·replace c23 := Bool.eq_false_iff.mpr c23
     subst c23
     have H1 : (l11_SpanSets.j0 k t393 t394 t397 t400 t403 t406 true) = some r := by rw [if_neg (show ¬ (false = true) by decide)] at H; exact H
     clear H
     have H := H1
     clear H1
     have H' := Aside0.mk H
     clear H
     obtain ⟨Ao35, co35, eo35⟩ := Kd.R_slice HO402.out
     subst eo35
     go_wp2_with (first | ((with_reducible refine gate_callee (f := 13) rfl ?_); refine goesL_ (some 29) rfl rfl Try.func13 (by kernel_rfl) rfl #[.slice Ao35 t400.length co35] rfl (by (try simp only [List.map_toArray, List.map_cons, List.map_nil]); first | done | rfl | (simp only [List.length_drop, List.length_take]; rfl)) ?_; (with_reducible refine (r11_Valid.calls k _ _ t400 true _ ?side1 ?side2 A18.out).mono ?_); (case side1 => repeat (first | exact (Kd.R_reads' HO402.out).2.2 | (with_reducible refine Kd.C_alloc ?_ _) | (with_reducible refine Kd.C_drewN ?_ _) | (with_reducible refine Kd.C_drew ?_))); (case side2 => exact (Kd.R_reads' HO402.out).2.1); rintro e w' ⟨rfl, ⟨nd, rfl⟩⟩; refine ⟨_, rfl, ?_⟩; obtain ⟨Ao36, co36, eo36⟩ := Kd.R_slice HO405.out; subst eo36) | (go_at_call 13; (with_reducible refine (r11_Valid.calls k _ _ t403 true _ ?side1 ?side2 A20.out).mono ?_); (case side1 => repeat (first | exact (Kd.R_reads' HO405.out).2.2 | (with_reducible refine Kd.C_alloc ?_ _) | (with_reducible refine Kd.C_drewN ?_ _) | (with_reducible refine Kd.C_drew ?_))); (case side2 => exact (Kd.R_reads' HO405.out).2.1); rintro e w' ⟨rfl, ⟨nd, rfl⟩⟩; obtain ⟨Ao37, co37, eo37⟩ := Kd.R_slice HO408.out; subst eo37) | (go_at_call 13; (with_reducible refine (r11_Valid.calls k _ _ t406 false _ ?side1 ?side2 A22.out).mono ?_); (case side1 => repeat (first | exact (Kd.R_reads' HO408.out).2.2 | (with_reducible refine Kd.C_alloc ?_ _) | (with_reducible refine Kd.C_drewN ?_ _) | (with_reducible refine Kd.C_drew ?_))); (case side2 => exact (Kd.R_reads' HO408.out).2.1); rintro e w' ⟨rfl, ⟨nd, rfl⟩⟩))
     go_meet
     case rel => exact ⟨_, (true), (by first | rfl | (simp; done) | (simp [*]; done)), H', ⟨by first | omega | exact Nat.le_refl _⟩, ⟨by (with_reducible repeat (first | apply Kd.R_alloc | apply Kd.R_drewN | apply Kd.R_drew)); exact Kd.R_mono HO396.out (fun _ hk => ⟨hk.1.1.1.2, ⟨hk.1.1.2, ⟨hk.1.2, hk.2⟩⟩⟩)⟩, ⟨by (with_reducible repeat (first | apply Kd.R_alloc | apply Kd.R_drewN | apply Kd.R_drew)); exact Kd.R_mono HO399.out (fun _ hk => ⟨hk.1.1.1.2, ⟨hk.1.1.2, ⟨hk.1.2, hk.2⟩⟩⟩)⟩, ⟨by (with_reducible repeat (first | apply Kd.R_alloc | apply Kd.R_drewN | apply Kd.R_drew)); exact Kd.R_mono HO402.out (fun _ hk => ⟨hk.1.1.1.2, ⟨hk.1.1.2, ⟨hk.1.2, hk.2⟩⟩⟩)⟩, ⟨by (with_reducible repeat (first | apply Kd.R_alloc | apply Kd.R_drewN | apply Kd.R_drew)); exact Kd.R_mono HO405.out (fun _ hk => ⟨hk.1.1.1.2, ⟨hk.1.1.2, ⟨hk.1.2, hk.2⟩⟩⟩)⟩, ⟨by (with_reducible repeat (first | apply Kd.R_alloc | apply Kd.R_drewN | apply Kd.R_drew)); exact Kd.R_mono HO408.out (fun _ hk => ⟨hk.1.1.1.2, ⟨hk.1.1.2, ⟨hk.1.2, hk.2⟩⟩⟩)⟩, ⟨by repeat (first | (with_reducible first | exact HB.out | apply below_alloc | apply pw_below_drewN | apply below_drew1) | exact HB.out)⟩⟩
   ·replace c21 := Bool.eq_false_iff.mpr c21
    subst c21
    have H1 : (l11_SpanSets.j0 k t393 t394 t397 t400 t403 t406 true) = some r := by rw [if_neg (show ¬ (false = true) by decide)] at H; exact H
    clear H
    have H := H1
    clear H1
    have H' := Aside0.mk H
    clear H
    obtain ⟨Ao38, co38, eo38⟩ := Kd.R_slice HO402.out
    subst eo38
    go_wp2_with (first | ((with_reducible refine gate_callee (f := 13) rfl ?_); refine goesL_ (some 29) rfl rfl Try.func13 (by kernel_rfl) rfl #[.slice Ao38 t400.length co38] rfl (by (try simp only [List.map_toArray, List.map_cons, List.map_nil]); first | done | rfl | (simp only [List.length_drop, List.length_take]; rfl)) ?_; (with_reducible refine (r11_Valid.calls k _ _ t400 true _ ?side1 ?side2 A18.out).mono ?_); (case side1 => repeat (first | exact (Kd.R_reads' HO402.out).2.2 | (with_reducible refine Kd.C_alloc ?_ _) | (with_reducible refine Kd.C_drewN ?_ _) | (with_reducible refine Kd.C_drew ?_))); (case side2 => exact (Kd.R_reads' HO402.out).2.1); rintro e w' ⟨rfl, ⟨nd, rfl⟩⟩; refine ⟨_, rfl, ?_⟩; obtain ⟨Ao39, co39, eo39⟩ := Kd.R_slice HO405.out; subst eo39) | (go_at_call 13; (with_reducible refine (r11_Valid.calls k _ _ t403 false _ ?side1 ?side2 A20.out).mono ?_); (case side1 => repeat (first | exact (Kd.R_reads' HO405.out).2.2 | (with_reducible refine Kd.C_alloc ?_ _) | (with_reducible refine Kd.C_drewN ?_ _) | (with_reducible refine Kd.C_drew ?_))); (case side2 => exact (Kd.R_reads' HO405.out).2.1); rintro e w' ⟨rfl, ⟨nd, rfl⟩⟩))
    go_meet
    case rel => exact ⟨_, (true), (by first | rfl | (simp; done) | (simp [*]; done)), H', ⟨by first | omega | exact Nat.le_refl _⟩, ⟨by (with_reducible repeat (first | apply Kd.R_alloc | apply Kd.R_drewN | apply Kd.R_drew)); exact Kd.R_mono HO396.out (fun _ hk => ⟨hk.1.1.1.2, ⟨hk.1.1.2, ⟨hk.1.2, hk.2⟩⟩⟩)⟩, ⟨by (with_reducible repeat (first | apply Kd.R_alloc | apply Kd.R_drewN | apply Kd.R_drew)); exact Kd.R_mono HO399.out (fun _ hk => ⟨hk.1.1.1.2, ⟨hk.1.1.2, ⟨hk.1.2, hk.2⟩⟩⟩)⟩, ⟨by (with_reducible repeat (first | apply Kd.R_alloc | apply Kd.R_drewN | apply Kd.R_drew)); exact Kd.R_mono HO402.out (fun _ hk => ⟨hk.1.1.1.2, ⟨hk.1.1.2, ⟨hk.1.2, hk.2⟩⟩⟩)⟩, ⟨by (with_reducible repeat (first | apply Kd.R_alloc | apply Kd.R_drewN | apply Kd.R_drew)); exact Kd.R_mono HO405.out (fun _ hk => ⟨hk.1.1.1.2, ⟨hk.1.1.2, ⟨hk.1.2, hk.2⟩⟩⟩)⟩, ⟨by (with_reducible repeat (first | apply Kd.R_alloc | apply Kd.R_drewN | apply Kd.R_drew)); exact Kd.R_mono HO408.out (fun _ hk => ⟨hk.1.1.1.2, ⟨hk.1.1.2, ⟨hk.1.2, hk.2⟩⟩⟩)⟩, ⟨by repeat (first | (with_reducible first | exact HB.out | apply below_alloc | apply pw_below_drewN | apply below_drew1) | exact HB.out)⟩⟩
  ·replace c19 := Bool.eq_false_iff.mpr c19
   subst c19
   have H1 : (l11_SpanSets.j0 k t393 t394 t397 t400 t403 t406 true) = some r := by rw [if_neg (show ¬ (false = true) by decide)] at H; exact H
   clear H
   have H := H1
   clear H1
   have H' := Aside0.mk H
   clear H
   obtain ⟨Ao40, co40, eo40⟩ := Kd.R_slice HO402.out
   subst eo40
   go_wp2_with (first | ((with_reducible refine gate_callee (f := 13) rfl ?_); refine goesL_ (some 29) rfl rfl Try.func13 (by kernel_rfl) rfl #[.slice Ao40 t400.length co40] rfl (by (try simp only [List.map_toArray, List.map_cons, List.map_nil]); first | done | rfl | (simp only [List.length_drop, List.length_take]; rfl)) ?_; (with_reducible refine (r11_Valid.calls k _ _ t400 false _ ?side1 ?side2 A18.out).mono ?_); (case side1 => repeat (first | exact (Kd.R_reads' HO402.out).2.2 | (with_reducible refine Kd.C_alloc ?_ _) | (with_reducible refine Kd.C_drewN ?_ _) | (with_reducible refine Kd.C_drew ?_))); (case side2 => exact (Kd.R_reads' HO402.out).2.1); rintro e w' ⟨rfl, ⟨nd, rfl⟩⟩; refine ⟨_, rfl, ?_⟩))
   go_meet
   case rel => exact ⟨_, (true), (by first | rfl | (simp; done) | (simp [*]; done)), H', ⟨by first | omega | exact Nat.le_refl _⟩, ⟨by (with_reducible repeat (first | apply Kd.R_alloc | apply Kd.R_drewN | apply Kd.R_drew)); exact Kd.R_mono HO396.out (fun _ hk => ⟨hk.1.1.1.2, ⟨hk.1.1.2, ⟨hk.1.2, hk.2⟩⟩⟩)⟩, ⟨by (with_reducible repeat (first | apply Kd.R_alloc | apply Kd.R_drewN | apply Kd.R_drew)); exact Kd.R_mono HO399.out (fun _ hk => ⟨hk.1.1.1.2, ⟨hk.1.1.2, ⟨hk.1.2, hk.2⟩⟩⟩)⟩, ⟨by (with_reducible repeat (first | apply Kd.R_alloc | apply Kd.R_drewN | apply Kd.R_drew)); exact Kd.R_mono HO402.out (fun _ hk => ⟨hk.1.1.1.2, ⟨hk.1.1.2, ⟨hk.1.2, hk.2⟩⟩⟩)⟩, ⟨by (with_reducible repeat (first | apply Kd.R_alloc | apply Kd.R_drewN | apply Kd.R_drew)); exact Kd.R_mono HO405.out (fun _ hk => ⟨hk.1.1.1.2, ⟨hk.1.1.2, ⟨hk.1.2, hk.2⟩⟩⟩)⟩, ⟨by (with_reducible repeat (first | apply Kd.R_alloc | apply Kd.R_drewN | apply Kd.R_drew)); exact Kd.R_mono HO408.out (fun _ hk => ⟨hk.1.1.1.2, ⟨hk.1.1.2, ⟨hk.1.2, hk.2⟩⟩⟩)⟩, ⟨by repeat (first | (with_reducible first | exact HB.out | apply below_alloc | apply pw_below_drewN | apply below_drew1) | exact HB.out)⟩⟩
 case rest =>
  clear HC9
  try clear c1
  try clear c2
  try clear p2
  try clear c5
  try clear c10
  try clear c13
  try clear c17
  try clear c19
  try clear c21
  try clear c23
  try clear c24
  try clear c24b0
  try clear c24b1
  try clear c28
  try clear c28b0
  try clear c28b1
  obtain ⟨kq, x55_8, rfl, HA, HJ8, HO_6, HO_7, HO_8, HO_9, HO_10, HB⟩ := hcut
  cases kq with
  | zero => exact absurd HA.out (by simp [l11_SpanSets.j0])
  | succ kj8 =>
   have H := HA.out
   clear HA
   simp only [l11_SpanSets.j0] at H
   by_cases c41 : x55_8 = true
   ·subst c41
    have H1 : (some false) = some r := by rw [if_pos rfl] at H; exact H
    clear H
    have H := H1
    clear H1
    exact absurd ((Option.some.inj H).trans HLAW.out) (by decide)
   ·replace c41 := Bool.eq_false_iff.mpr c41
    subst c41
    have H1 : (l11_SpanSets.l0 kj8 t393 t394 t397 t400 t403 t406 (-22)) = some r := by rw [if_neg (show ¬ (false = true) by decide)] at H; exact H
    clear H
    have H := H1
    clear H1
    have H' := Aside0.mk H
    clear H
    go_wp2
    go_loopg [11] kj8 (fun kq v11 w' => ∃ (x11_2 : Int), v11 = .int .i64 x11_2 ∧ Aside0 (l11_SpanSets.l0 kq t393 t394 t397 t400 t403 t406 x11_2 = some r) ∧ Aside0 (kq ≤ kj8) ∧ Aside0 (Kd.R k24 24 w' w.heap.size (fun k_ => some k_ ≠ ((.slice Ao14 t397.length co14) : Value).ownBlock ∧ some k_ ≠ (v401 : Value).ownBlock ∧ some k_ ≠ (v404 : Value).ownBlock ∧ some k_ ≠ (v407 : Value).ownBlock) (.slice Ao13 t394.length co13) t394) ∧ Aside0 (Kd.R k24 24 w' w.heap.size (fun k_ => some k_ ≠ ((.slice Ao13 t394.length co13) : Value).ownBlock ∧ some k_ ≠ (v401 : Value).ownBlock ∧ some k_ ≠ (v404 : Value).ownBlock ∧ some k_ ≠ (v407 : Value).ownBlock) (.slice Ao14 t397.length co14) t397) ∧ Aside0 (Kd.R k24 24 w' w.heap.size (fun k_ => some k_ ≠ ((.slice Ao13 t394.length co13) : Value).ownBlock ∧ some k_ ≠ ((.slice Ao14 t397.length co14) : Value).ownBlock ∧ some k_ ≠ (v404 : Value).ownBlock ∧ some k_ ≠ (v407 : Value).ownBlock) v401 t400) ∧ Aside0 (Kd.R k24 24 w' w.heap.size (fun k_ => some k_ ≠ ((.slice Ao13 t394.length co13) : Value).ownBlock ∧ some k_ ≠ ((.slice Ao14 t397.length co14) : Value).ownBlock ∧ some k_ ≠ (v401 : Value).ownBlock ∧ some k_ ≠ (v407 : Value).ownBlock) v404 t403) ∧ Aside0 (Kd.R k24 24 w' w.heap.size (fun k_ => some k_ ≠ ((.slice Ao13 t394.length co13) : Value).ownBlock ∧ some k_ ≠ ((.slice Ao14 t397.length co14) : Value).ownBlock ∧ some k_ ≠ (v401 : Value).ownBlock ∧ some k_ ≠ (v404 : Value).ownBlock) v407 t406) ∧ Aside0 (Below w.heap.size w w'))
    case atStart => exact ⟨((-22)), (by first | rfl | (simp; done) | (simp [*]; done)), H', ⟨Nat.le_refl _⟩, ⟨by (with_reducible repeat (first | apply Kd.R_alloc | apply Kd.R_drewN | apply Kd.R_drew)); exact HO_6.out⟩, ⟨by (with_reducible repeat (first | apply Kd.R_alloc | apply Kd.R_drewN | apply Kd.R_drew)); exact HO_7.out⟩, ⟨by (with_reducible repeat (first | apply Kd.R_alloc | apply Kd.R_drewN | apply Kd.R_drew)); exact HO_8.out⟩, ⟨by (with_reducible repeat (first | apply Kd.R_alloc | apply Kd.R_drewN | apply Kd.R_drew)); exact HO_9.out⟩, ⟨by (with_reducible repeat (first | apply Kd.R_alloc | apply Kd.R_drewN | apply Kd.R_drew)); exact HO_10.out⟩, ⟨by repeat (first | (with_reducible first | exact HB.out | apply below_alloc | apply pw_below_drewN | apply below_drew1) | exact HB.out)⟩⟩
    case round =>
     clear H'
     try clear c1
     try clear c2
     try clear p2
     try clear c4
     try clear c5
     try clear c10
     try clear c13
     try clear c17
     try clear c19
     try clear c21
     try clear c23
     try clear c24
     try clear c24b0
     try clear c24b1
     try clear c28
     try clear c28b0
     try clear c28b1
     try clear c41
     try clear p2
     obtain ⟨x11_2, rfl, HA, HK2, HO_6, HO_7, HO_8, HO_9, HO_10, HB⟩ := hrel
     cases gk with
     | zero => exact absurd HA.out (by simp [l11_SpanSets.l0])
     | succ k2 =>
      have H := HA.out
      clear HA
      simp only [l11_SpanSets.l0] at H
      by_cases c42 : x11_2 ≤ 22
      ·rw [if_pos c42] at H
       have c42b0 : decide (x11_2 ≤ 22) = true := decide_eq_true c42
       clear c42
       replace H := Option.bind_eq_some_iff.mp H
       obtain ⟨t412, A430, H⟩ := H
       replace H : ((r11_Has.f k2 t397 x11_2).bind fun t413 => ((r11_Has.f k2 t400 x11_2).bind fun t414 => (if t412 = true then (if (t414 != true) = true then (some false) else ((r11_Has.f k2 t403 x11_2).bind fun t415 => (if (t415 != t413) = true then (some false) else ((r11_Has.f k2 t406 x11_2).bind fun t416 => (if (t416 != (!t413)) = true then (some false) else (l11_SpanSets.l0 k2 t393 t394 t397 t400 t403 t406 (wrap64 (x11_2 + 1)))))))) else (if (t414 != t413) = true then (some false) else ((r11_Has.f k2 t403 x11_2).bind fun t417 => (if (t417 != false) = true then (some false) else ((r11_Has.f k2 t406 x11_2).bind fun t418 => (if (t418 != false) = true then (some false) else (l11_SpanSets.l0 k2 t393 t394 t397 t400 t403 t406 (wrap64 (x11_2 + 1))))))))))) = some r := H
       have A43 := Aside0.mk A430
       clear A430
       replace H := Option.bind_eq_some_iff.mp H
       obtain ⟨t413, A440, H⟩ := H
       replace H : ((r11_Has.f k2 t400 x11_2).bind fun t414 => (if t412 = true then (if (t414 != true) = true then (some false) else ((r11_Has.f k2 t403 x11_2).bind fun t415 => (if (t415 != t413) = true then (some false) else ((r11_Has.f k2 t406 x11_2).bind fun t416 => (if (t416 != (!t413)) = true then (some false) else (l11_SpanSets.l0 k2 t393 t394 t397 t400 t403 t406 (wrap64 (x11_2 + 1)))))))) else (if (t414 != t413) = true then (some false) else ((r11_Has.f k2 t403 x11_2).bind fun t417 => (if (t417 != false) = true then (some false) else ((r11_Has.f k2 t406 x11_2).bind fun t418 => (if (t418 != false) = true then (some false) else (l11_SpanSets.l0 k2 t393 t394 t397 t400 t403 t406 (wrap64 (x11_2 + 1)))))))))) = some r := H
       have A44 := Aside0.mk A440
       clear A440
       replace H := Option.bind_eq_some_iff.mp H
       obtain ⟨t414, A450, H⟩ := H
       replace H : (if t412 = true then (if (t414 != true) = true then (some false) else ((r11_Has.f k2 t403 x11_2).bind fun t415 => (if (t415 != t413) = true then (some false) else ((r11_Has.f k2 t406 x11_2).bind fun t416 => (if (t416 != (!t413)) = true then (some false) else (l11_SpanSets.l0 k2 t393 t394 t397 t400 t403 t406 (wrap64 (x11_2 + 1)))))))) else (if (t414 != t413) = true then (some false) else ((r11_Has.f k2 t403 x11_2).bind fun t417 => (if (t417 != false) = true then (some false) else ((r11_Has.f k2 t406 x11_2).bind fun t418 => (if (t418 != false) = true then (some false) else (l11_SpanSets.l0 k2 t393 t394 t397 t400 t403 t406 (wrap64 (x11_2 + 1))))))))) = some r := H
       have A45 := Aside0.mk A450
       clear A450
       by_cases c46 : t412 = true
       ·subst c46
        have H1 : (if (t414 != true) = true then (some false) else ((r11_Has.f k2 t403 x11_2).bind fun t415 => (if (t415 != t413) = true then (some false) else ((r11_Has.f k2 t406 x11_2).bind fun t416 => (if (t416 != (!t413)) = true then (some false) else (l11_SpanSets.l0 k2 t393 t394 t397 t400 t403 t406 (wrap64 (x11_2 + 1)))))))) = some r := by rw [if_pos rfl] at H; exact H
        clear H
        have H := H1
        clear H1
        by_cases c47 : (t414 != true) = true
        ·rw [if_pos c47] at H
         have c47b0 : (t414 != true) = true := c47
         (try (have c47b1 : decide (t414 = true) = false := by simpa using c47))
         (try (have c47b2 : (t414 == true) = false := by simpa using c47))
         (try (have c47b3 : ¬ (t414 = true) := by simpa using c47))
         clear c47
         exact absurd ((Option.some.inj H).trans HLAW.out) (by decide)
        ·rw [if_neg c47] at H
         have c47b0 : (t414 != true) = false := by simpa using c47
         (try (have c47b1 : decide (t414 = true) = true := by simpa using c47))
         (try (have c47b2 : (t414 == true) = true := by simpa using c47))
         clear c47
         replace H := Option.bind_eq_some_iff.mp H
         obtain ⟨t415, A480, H⟩ := H
         replace H : (if (t415 != t413) = true then (some false) else ((r11_Has.f k2 t406 x11_2).bind fun t416 => (if (t416 != (!t413)) = true then (some false) else (l11_SpanSets.l0 k2 t393 t394 t397 t400 t403 t406 (wrap64 (x11_2 + 1)))))) = some r := H
         have A48 := Aside0.mk A480
         clear A480
         by_cases c49 : (t415 != t413) = true
         ·rw [if_pos c49] at H
          have c49b0 : (t415 != t413) = true := c49
          (try (have c49b1 : decide (t415 = t413) = false := by simpa using c49))
          (try (have c49b2 : (t415 == t413) = false := by simpa using c49))
          (try (have c49b3 : ¬ (t415 = t413) := by simpa using c49))
          clear c49
          exact absurd ((Option.some.inj H).trans HLAW.out) (by decide)
         ·rw [if_neg c49] at H
          have c49b0 : (t415 != t413) = false := by simpa using c49
          (try (have c49b1 : decide (t415 = t413) = true := by simpa using c49))
          (try (have c49b2 : (t415 == t413) = true := by simpa using c49))
          clear c49
          replace H := Option.bind_eq_some_iff.mp H
          obtain ⟨t416, A500, H⟩ := H
          replace H : (if (t416 != (!t413)) = true then (some false) else (l11_SpanSets.l0 k2 t393 t394 t397 t400 t403 t406 (wrap64 (x11_2 + 1)))) = some r := H
          have A50 := Aside0.mk A500
          clear A500
          by_cases c51 : (t416 != (!t413)) = true
          ·rw [if_pos c51] at H
           have c51b0 : (t416 != (!t413)) = true := c51
           (try (have c51b1 : decide (t416 = (!t413)) = false := by simpa using c51))
           (try (have c51b2 : (t416 == (!t413)) = false := by simpa using c51))
           (try (have c51b3 : ¬ (t416 = (!t413)) := by simpa using c51))
           clear c51
           exact absurd ((Option.some.inj H).trans HLAW.out) (by decide)
          ·rw [if_neg c51] at H
           have c51b0 : (t416 != (!t413)) = false := by simpa using c51
           have c51b3 : (t416 == t413) = false := by revert c51b0; cases t416 <;> cases t413 <;> decide
           have c51b4 : decide (t416 = t413) = false := by revert c51b0; cases t416 <;> cases t413 <;> decide
           have c51b5 : (t416 == (!t413)) = true := by revert c51b0; cases t416 <;> cases t413 <;> decide
           have c51b6 : decide (t416 = (!t413)) = true := by revert c51b0; cases t416 <;> cases t413 <;> decide
           have c51b7 : (t416 != t413) = true := by revert c51b0; cases t416 <;> cases t413 <;> decide
           have c51b8 : ¬ (t416 = t413) := by revert c51b0; cases t416 <;> cases t413 <;> decide
           (try (have c51b1 : decide (t416 = (!t413)) = true := by simpa using c51))
           (try (have c51b2 : (t416 == (!t413)) = true := by simpa using c51))
           clear c51
           have H' := Aside0.mk H
           clear H
           go_wp2_with (first | ((with_reducible refine gate_callee (f := 25) rfl ?_); refine goesL_ (some 62) rfl rfl Try.func25 (by kernel_rfl) rfl #[.slice Ao13 t394.length co13, .int .i64 x11_2] rfl (by (try simp only [List.map_toArray, List.map_cons, List.map_nil]); first | done | rfl | (simp only [List.length_drop, List.length_take]; rfl)) ?_; (with_reducible refine (r11_Has.calls k2 _ _ t394 x11_2 true _ ?side1 ?side2 A43.out).mono ?_); (case side1 => repeat (first | exact (Kd.R_reads' HO_6.out).2.2 | (with_reducible refine Kd.C_alloc ?_ _) | (with_reducible refine Kd.C_drewN ?_ _) | (with_reducible refine Kd.C_drew ?_))); (case side2 => exact (Kd.R_reads' HO_6.out).2.1); rintro e w' ⟨rfl, ⟨nd, rfl⟩⟩; refine ⟨_, rfl, ?_⟩) | ((with_reducible refine gate_callee (f := 25) rfl ?_); refine goesL_ (some 65) rfl rfl Try.func25 (by kernel_rfl) rfl #[.slice Ao14 t397.length co14, .int .i64 x11_2] rfl (by (try simp only [List.map_toArray, List.map_cons, List.map_nil]); first | done | rfl | (simp only [List.length_drop, List.length_take]; rfl)) ?_; (with_reducible refine (r11_Has.calls k2 _ _ t397 x11_2 t413 _ ?side1 ?side2 A44.out).mono ?_); (case side1 => repeat (first | exact (Kd.R_reads' HO_7.out).2.2 | (with_reducible refine Kd.C_alloc ?_ _) | (with_reducible refine Kd.C_drewN ?_ _) | (with_reducible refine Kd.C_drew ?_))); (case side2 => exact (Kd.R_reads' HO_7.out).2.1); rintro e w' ⟨rfl, ⟨nd, rfl⟩⟩; refine ⟨_, rfl, ?_⟩; obtain ⟨Ao52, co52, eo52⟩ := Kd.R_slice HO_8.out; subst eo52) | ((with_reducible refine gate_callee (f := 25) rfl ?_); refine goesL_ (some 68) rfl rfl Try.func25 (by kernel_rfl) rfl #[.slice Ao52 t400.length co52, .int .i64 x11_2] rfl (by (try simp only [List.map_toArray, List.map_cons, List.map_nil]); first | done | rfl | (simp only [List.length_drop, List.length_take]; rfl)) ?_; (with_reducible refine (r11_Has.calls k2 _ _ t400 x11_2 t414 _ ?side1 ?side2 A45.out).mono ?_); (case side1 => repeat (first | exact (Kd.R_reads' HO_8.out).2.2 | (with_reducible refine Kd.C_alloc ?_ _) | (with_reducible refine Kd.C_drewN ?_ _) | (with_reducible refine Kd.C_drew ?_))); (case side2 => exact (Kd.R_reads' HO_8.out).2.1); rintro e w' ⟨rfl, ⟨nd, rfl⟩⟩; refine ⟨_, rfl, ?_⟩; obtain ⟨Ao53, co53, eo53⟩ := Kd.R_slice HO_9.out; subst eo53) | (go_at_call 25; (with_reducible refine (r11_Has.calls k2 _ _ t403 x11_2 t415 _ ?side1 ?side2 A48.out).mono ?_); (case side1 => repeat (first | exact (Kd.R_reads' HO_9.out).2.2 | (with_reducible refine Kd.C_alloc ?_ _) | (with_reducible refine Kd.C_drewN ?_ _) | (with_reducible refine Kd.C_drew ?_))); (case side2 => exact (Kd.R_reads' HO_9.out).2.1); rintro e w' ⟨rfl, ⟨nd, rfl⟩⟩; obtain ⟨Ao54, co54, eo54⟩ := Kd.R_slice HO_10.out; subst eo54) | (go_at_call 25; (with_reducible refine (r11_Has.calls k2 _ _ t406 x11_2 t416 _ ?side1 ?side2 A50.out).mono ?_); (case side1 => repeat (first | exact (Kd.R_reads' HO_10.out).2.2 | (with_reducible refine Kd.C_alloc ?_ _) | (with_reducible refine Kd.C_drewN ?_ _) | (with_reducible refine Kd.C_drew ?_))); (case side2 => exact (Kd.R_reads' HO_10.out).2.1); rintro e w' ⟨rfl, ⟨nd, rfl⟩⟩))
           go_roundg k2
           case measure => have := HJ8.out; have := HK2.out; omega
           case rel => exact ⟨(wrap64 (x11_2 + 1)), (by first | rfl | (simp; done) | (simp [*]; done)), H', ⟨by have := HJ8.out; have := HK2.out; omega⟩, ⟨by (with_reducible repeat (first | apply Kd.R_alloc | apply Kd.R_drewN | apply Kd.R_drew)); exact HO_6.out⟩, ⟨by (with_reducible repeat (first | apply Kd.R_alloc | apply Kd.R_drewN | apply Kd.R_drew)); exact HO_7.out⟩, ⟨by (with_reducible repeat (first | apply Kd.R_alloc | apply Kd.R_drewN | apply Kd.R_drew)); exact HO_8.out⟩, ⟨by (with_reducible repeat (first | apply Kd.R_alloc | apply Kd.R_drewN | apply Kd.R_drew)); exact HO_9.out⟩, ⟨by (with_reducible repeat (first | apply Kd.R_alloc | apply Kd.R_drewN | apply Kd.R_drew)); exact HO_10.out⟩, ⟨by repeat (first | (with_reducible first | exact HB.out | apply below_alloc | apply pw_below_drewN | apply below_drew1) | exact HB.out)⟩⟩
       ·replace c46 := Bool.eq_false_iff.mpr c46
        subst c46
        have H1 : (if (t414 != t413) = true then (some false) else ((r11_Has.f k2 t403 x11_2).bind fun t417 => (if (t417 != false) = true then (some false) else ((r11_Has.f k2 t406 x11_2).bind fun t418 => (if (t418 != false) = true then (some false) else (l11_SpanSets.l0 k2 t393 t394 t397 t400 t403 t406 (wrap64 (x11_2 + 1)))))))) = some r := by rw [if_neg (show ¬ (false = true) by decide)] at H; exact H
        clear H
        have H := H1
        clear H1
        by_cases c55 : (t414 != t413) = true
        ·rw [if_pos c55] at H
         have c55b0 : (t414 != t413) = true := c55
         (try (have c55b1 : decide (t414 = t413) = false := by simpa using c55))
         (try (have c55b2 : (t414 == t413) = false := by simpa using c55))
         (try (have c55b3 : ¬ (t414 = t413) := by simpa using c55))
         clear c55
         exact absurd ((Option.some.inj H).trans HLAW.out) (by decide)
        ·rw [if_neg c55] at H
         have c55b0 : (t414 != t413) = false := by simpa using c55
         (try (have c55b1 : decide (t414 = t413) = true := by simpa using c55))
         (try (have c55b2 : (t414 == t413) = true := by simpa using c55))
         clear c55
         replace H := Option.bind_eq_some_iff.mp H
         obtain ⟨t417, A560, H⟩ := H
         replace H : (if (t417 != false) = true then (some false) else ((r11_Has.f k2 t406 x11_2).bind fun t418 => (if (t418 != false) = true then (some false) else (l11_SpanSets.l0 k2 t393 t394 t397 t400 t403 t406 (wrap64 (x11_2 + 1)))))) = some r := H
         have A56 := Aside0.mk A560
         clear A560
         by_cases c57 : (t417 != false) = true
         ·rw [if_pos c57] at H
          have c57b0 : (t417 != false) = true := c57
          (try (have c57b1 : decide (t417 = false) = false := by simpa using c57))
          (try (have c57b2 : (t417 == false) = false := by simpa using c57))
          (try (have c57b3 : ¬ (t417 = false) := by simpa using c57))
          clear c57
          exact absurd ((Option.some.inj H).trans HLAW.out) (by decide)
         ·rw [if_neg c57] at H
          have c57b0 : (t417 != false) = false := by simpa using c57
          (try (have c57b1 : decide (t417 = false) = true := by simpa using c57))
          (try (have c57b2 : (t417 == false) = true := by simpa using c57))
          clear c57
          replace H := Option.bind_eq_some_iff.mp H
          obtain ⟨t418, A580, H⟩ := H
          replace H : (if (t418 != false) = true then (some false) else (l11_SpanSets.l0 k2 t393 t394 t397 t400 t403 t406 (wrap64 (x11_2 + 1)))) = some r := H
          have A58 := Aside0.mk A580
          clear A580
          by_cases c59 : (t418 != false) = true
          ·rw [if_pos c59] at H
           have c59b0 : (t418 != false) = true := c59
           (try (have c59b1 : decide (t418 = false) = false := by simpa using c59))
           (try (have c59b2 : (t418 == false) = false := by simpa using c59))
           (try (have c59b3 : ¬ (t418 = false) := by simpa using c59))
           clear c59
           exact absurd ((Option.some.inj H).trans HLAW.out) (by decide)
          ·rw [if_neg c59] at H
           have c59b0 : (t418 != false) = false := by simpa using c59
           (try (have c59b1 : decide (t418 = false) = true := by simpa using c59))
           (try (have c59b2 : (t418 == false) = true := by simpa using c59))
           clear c59
           have H' := Aside0.mk H
           clear H
           go_wp2_with (first | ((with_reducible refine gate_callee (f := 25) rfl ?_); refine goesL_ (some 62) rfl rfl Try.func25 (by kernel_rfl) rfl #[.slice Ao13 t394.length co13, .int .i64 x11_2] rfl (by (try simp only [List.map_toArray, List.map_cons, List.map_nil]); first | done | rfl | (simp only [List.length_drop, List.length_take]; rfl)) ?_; (with_reducible refine (r11_Has.calls k2 _ _ t394 x11_2 false _ ?side1 ?side2 A43.out).mono ?_); (case side1 => repeat (first | exact (Kd.R_reads' HO_6.out).2.2 | (with_reducible refine Kd.C_alloc ?_ _) | (with_reducible refine Kd.C_drewN ?_ _) | (with_reducible refine Kd.C_drew ?_))); (case side2 => exact (Kd.R_reads' HO_6.out).2.1); rintro e w' ⟨rfl, ⟨nd, rfl⟩⟩; refine ⟨_, rfl, ?_⟩) | ((with_reducible refine gate_callee (f := 25) rfl ?_); refine goesL_ (some 65) rfl rfl Try.func25 (by kernel_rfl) rfl #[.slice Ao14 t397.length co14, .int .i64 x11_2] rfl (by (try simp only [List.map_toArray, List.map_cons, List.map_nil]); first | done | rfl | (simp only [List.length_drop, List.length_take]; rfl)) ?_; (with_reducible refine (r11_Has.calls k2 _ _ t397 x11_2 t413 _ ?side1 ?side2 A44.out).mono ?_); (case side1 => repeat (first | exact (Kd.R_reads' HO_7.out).2.2 | (with_reducible refine Kd.C_alloc ?_ _) | (with_reducible refine Kd.C_drewN ?_ _) | (with_reducible refine Kd.C_drew ?_))); (case side2 => exact (Kd.R_reads' HO_7.out).2.1); rintro e w' ⟨rfl, ⟨nd, rfl⟩⟩; refine ⟨_, rfl, ?_⟩; obtain ⟨Ao60, co60, eo60⟩ := Kd.R_slice HO_8.out; subst eo60) | ((with_reducible refine gate_callee (f := 25) rfl ?_); refine goesL_ (some 68) rfl rfl Try.func25 (by kernel_rfl) rfl #[.slice Ao60 t400.length co60, .int .i64 x11_2] rfl (by (try simp only [List.map_toArray, List.map_cons, List.map_nil]); first | done | rfl | (simp only [List.length_drop, List.length_take]; rfl)) ?_; (with_reducible refine (r11_Has.calls k2 _ _ t400 x11_2 t414 _ ?side1 ?side2 A45.out).mono ?_); (case side1 => repeat (first | exact (Kd.R_reads' HO_8.out).2.2 | (with_reducible refine Kd.C_alloc ?_ _) | (with_reducible refine Kd.C_drewN ?_ _) | (with_reducible refine Kd.C_drew ?_))); (case side2 => exact (Kd.R_reads' HO_8.out).2.1); rintro e w' ⟨rfl, ⟨nd, rfl⟩⟩; refine ⟨_, rfl, ?_⟩; obtain ⟨Ao61, co61, eo61⟩ := Kd.R_slice HO_9.out; subst eo61) | (go_at_call 25; (with_reducible refine (r11_Has.calls k2 _ _ t403 x11_2 t417 _ ?side1 ?side2 A56.out).mono ?_); (case side1 => repeat (first | exact (Kd.R_reads' HO_9.out).2.2 | (with_reducible refine Kd.C_alloc ?_ _) | (with_reducible refine Kd.C_drewN ?_ _) | (with_reducible refine Kd.C_drew ?_))); (case side2 => exact (Kd.R_reads' HO_9.out).2.1); rintro e w' ⟨rfl, ⟨nd, rfl⟩⟩; obtain ⟨Ao62, co62, eo62⟩ := Kd.R_slice HO_10.out; subst eo62) | (go_at_call 25; (with_reducible refine (r11_Has.calls k2 _ _ t406 x11_2 t418 _ ?side1 ?side2 A58.out).mono ?_); (case side1 => repeat (first | exact (Kd.R_reads' HO_10.out).2.2 | (with_reducible refine Kd.C_alloc ?_ _) | (with_reducible refine Kd.C_drewN ?_ _) | (with_reducible refine Kd.C_drew ?_))); (case side2 => exact (Kd.R_reads' HO_10.out).2.1); rintro e w' ⟨rfl, ⟨nd, rfl⟩⟩))
           go_roundg k2
           case measure => have := HJ8.out; have := HK2.out; omega
           case rel => exact ⟨(wrap64 (x11_2 + 1)), (by first | rfl | (simp; done) | (simp [*]; done)), H', ⟨by have := HJ8.out; have := HK2.out; omega⟩, ⟨by (with_reducible repeat (first | apply Kd.R_alloc | apply Kd.R_drewN | apply Kd.R_drew)); exact HO_6.out⟩, ⟨by (with_reducible repeat (first | apply Kd.R_alloc | apply Kd.R_drewN | apply Kd.R_drew)); exact HO_7.out⟩, ⟨by (with_reducible repeat (first | apply Kd.R_alloc | apply Kd.R_drewN | apply Kd.R_drew)); exact HO_8.out⟩, ⟨by (with_reducible repeat (first | apply Kd.R_alloc | apply Kd.R_drewN | apply Kd.R_drew)); exact HO_9.out⟩, ⟨by (with_reducible repeat (first | apply Kd.R_alloc | apply Kd.R_drewN | apply Kd.R_drew)); exact HO_10.out⟩, ⟨by repeat (first | (with_reducible first | exact HB.out | apply below_alloc | apply pw_below_drewN | apply below_drew1) | exact HB.out)⟩⟩
      ·rw [if_neg c42] at H
       have c42b0 : decide (x11_2 ≤ 22) = false := decide_eq_false c42
       clear c42
       clear HLAW
       obtain rfl := Option.some.inj H
       go_wp2
       go_ret
       exact ⟨by first | rfl | (simp [errW_none, errW_some] <;> rfl) | (simp [*, errW_none, errW_some] <;> rfl) | (exfalso; simp_all only [aside0_iff, Option.some.injEq, reduceCtorEq]), by repeat (first | (with_reducible first | exact HB.out | apply below_alloc | apply pw_below_drewN | apply below_drew1) | exact HB.out)⟩

/-- THE ONE PURE STATEMENT of l11_SpanSets: yours. -/
def l11_SpanSets.Pure : Prop := ∀ (l0 : List (S49)) (l1 : List (S49)), (l0.length ≤ maxLen ∧ l0.length * 2 ≤ 140737488351232 ∧ ∀ x1_ ∈ l0, ((Lit.int .i8 x1_.f0).wf = true) ∧ ((Lit.int .i8 x1_.f1).wf = true)) → (l1.length ≤ maxLen ∧ l1.length * 2 ≤ 140737488351232 ∧ ∀ x1_ ∈ l1, ((Lit.int .i8 x1_.f0).wf = true) ∧ ((Lit.int .i8 x1_.f1).wf = true)) → ∃ k, l11_SpanSets.f k l0 l1 = some true

end Go.Proofs.Ytebggajdojdebaa.PS
