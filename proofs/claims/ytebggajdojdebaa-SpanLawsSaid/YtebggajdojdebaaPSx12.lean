/- Plain Lean functions with the answers of the Go functions that these laws reach, and proofs that the calls come to them; written by this session's program. -/
import Derived.Test.YtebggajdojdebaaPSx0
import Derived.Test.YtebggajdojdebaaPSx2
import Derived.Test.YtebggajdojdebaaPSx3
import Derived.Test.YtebggajdojdebaaPSx4
import Derived.Test.YtebggajdojdebaaPSx5
import Derived.Test.YtebggajdojdebaaPSx6
namespace Go.Proofs.Ytebggajdojdebaa.PS
open Go.RowKit Go.Proofs.YtebggajdojdebaaW.PrintWords Go.Proofs.YtebggajdojdebaaW.PrintLast Go.Proofs.YtebggajdojdebaaW.PrintMore
attribute [local go_sem] max2_int min2_int max_two min_two max_three min_three max_four min_four   -- for this text's walks alone
set_option linter.unusedVariables false
set_option linter.unusedSimpArgs false

/-! ### l11_SpanLaws: function 6 -/
mutual
def l11_SpanLaws.j0 : Nat → Bool → List (S24) → List (S24) → List (S24) → List (S24) → List (S24) → Bool → Option (Bool)
 | 0, _, _, _, _, _, _, _ => none
 | k + 1, x7, x8, x9, x10, x11, x12, x37 => if x37 = true then (some false) else ((span_Union.f x9 x8).bind fun t435 => ((r11_Same.f k t435 x11).bind fun t438 => (if t438 = true then ((span_Meet.f x10 x9).bind fun t439 => ((r11_Same.f k t439 x12).bind fun t442 => (l11_SpanLaws.j1 k x7 x8 x9 x10 x11 x12 t442))) else (l11_SpanLaws.j1 k x7 x8 x9 x10 x11 x12 false))))
def l11_SpanLaws.j1 : Nat → Bool → List (S24) → List (S24) → List (S24) → List (S24) → List (S24) → Bool → Option (Bool)
 | 0, _, _, _, _, _, _, _ => none
 | k + 1, x7, x8, x9, x10, x11, x12, x13 => (span_Union.f x11 x10).bind fun t443 => ((span_Union.f x9 x10).bind fun t446 => ((span_Union.f x8 t446).bind fun t449 => ((r11_Same.f k t443 t449).bind fun t452 => (if t452 = true then ((span_Meet.f x8 x9).bind fun t453 => ((span_Meet.f t453 x10).bind fun t456 => ((span_Meet.f x8 x12).bind fun t459 => ((r11_Same.f k t456 t459).bind fun t462 => (l11_SpanLaws.j2 k x7 x8 x9 x10 x11 x12 x13 t462))))) else (l11_SpanLaws.j2 k x7 x8 x9 x10 x11 x12 x13 false)))))
def l11_SpanLaws.j2 : Nat → Bool → List (S24) → List (S24) → List (S24) → List (S24) → List (S24) → Bool → Bool → Option (Bool)
 | 0, _, _, _, _, _, _, _, _ => none
 | k + 1, x7, x8, x9, x10, x11, x12, x13, x14 => (span_Meet.f x10 x11).bind fun t463 => ((span_Meet.f x10 x8).bind fun t466 => ((span_Meet.f x10 x9).bind fun t469 => ((span_Union.f t466 t469).bind fun t472 => ((r11_Same.f k t463 t472).bind fun t475 => (if t475 = true then ((span_Minus.f x8 x12).bind fun t476 => ((span_Minus.f x8 x9).bind fun t479 => ((span_Minus.f x8 x10).bind fun t482 => ((span_Union.f t479 t482).bind fun t485 => ((r11_Same.f k t476 t485).bind fun t488 => (l11_SpanLaws.j3 k x7 x8 x9 x13 x14 t488)))))) else (l11_SpanLaws.j3 k x7 x8 x9 x13 x14 false))))))
def l11_SpanLaws.j3 : Nat → Bool → List (S24) → List (S24) → Bool → Bool → Bool → Option (Bool)
 | 0, _, _, _, _, _, _ => none
 | k + 1, x7, x8, x9, x13, x14, x15 => (span_Minus.f x8 x9).bind fun t489 => ((span_Meet.f x8 x9).bind fun t492 => ((span_Union.f t489 t492).bind fun t495 => ((span_Norm.f x8).bind fun t498 => ((r11_Same.f k t495 t498).bind fun t501 => (if t501 = true then ((span_Minus.f x8 x9).bind fun t502 => ((span_Meet.f t502 x9).bind fun t505 => (if x13 = true then (if x14 = true then (if x15 = true then (if (t505.length : Int) = 0 then (some x7) else (some false)) else (some false)) else (some false)) else (some false)))) else (if x13 = true then (if x14 = true then (if x15 = true then (some false) else (some false)) else (some false)) else (some false)))))))
end
def l11_SpanLaws.f (k : Nat) (l0 : List (S24)) (l1 : List (S24)) (l2 : List (S24)) : Option (Bool) := (l11_sanity.f k).bind fun t419 => ((l11_short.f l0).bind fun t420 => ((l11_short.f l1).bind fun t423 => ((l11_short.f l2).bind fun t426 => ((span_Union.f t420 t423).bind fun t429 => ((span_Meet.f t423 t426).bind fun t432 => (if (t429.length : Int) > 24 then (l11_SpanLaws.j0 k t419 t420 t423 t426 t429 t432 true) else (l11_SpanLaws.j0 k t419 t420 t423 t426 t429 t432 (decide ((t432.length : Int) > 24)))))))))
theorem l11_SpanLaws.mono_l : ∀ k, (∀ y0 y1 y2 y3 y4 y5 y6, LeO (l11_SpanLaws.j0 k y0 y1 y2 y3 y4 y5 y6) (l11_SpanLaws.j0 (k + 1) y0 y1 y2 y3 y4 y5 y6)) ∧ (∀ y0 y1 y2 y3 y4 y5 y6, LeO (l11_SpanLaws.j1 k y0 y1 y2 y3 y4 y5 y6) (l11_SpanLaws.j1 (k + 1) y0 y1 y2 y3 y4 y5 y6)) ∧ (∀ y0 y1 y2 y3 y4 y5 y6 y7, LeO (l11_SpanLaws.j2 k y0 y1 y2 y3 y4 y5 y6 y7) (l11_SpanLaws.j2 (k + 1) y0 y1 y2 y3 y4 y5 y6 y7)) ∧ (∀ y0 y1 y2 y3 y4 y5, LeO (l11_SpanLaws.j3 k y0 y1 y2 y3 y4 y5) (l11_SpanLaws.j3 (k + 1) y0 y1 y2 y3 y4 y5))
 | 0 => ⟨fun _ _ _ _ _ _ _ r h => by simp [l11_SpanLaws.j0] at h, fun _ _ _ _ _ _ _ r h => by simp [l11_SpanLaws.j1] at h, fun _ _ _ _ _ _ _ _ r h => by simp [l11_SpanLaws.j2] at h, fun _ _ _ _ _ _ r h => by simp [l11_SpanLaws.j3] at h⟩
 | k + 1 => by
  obtain ⟨ih0, ih1, ih2, ih3⟩ := l11_SpanLaws.mono_l k
  refine ⟨?_, ?_, ?_, ?_⟩
  ·intro y0 y1 y2 y3 y4 y5 y6
   unfold l11_SpanLaws.j0
   repeat' first
   | (with_reducible exact ih0 _ _ _ _ _ _ _)
   | (with_reducible exact ih1 _ _ _ _ _ _ _)
   | (with_reducible exact ih2 _ _ _ _ _ _ _ _)
   | (with_reducible exact ih3 _ _ _ _ _ _)
   | (with_reducible exact l11_sanity.mono _)
   | (with_reducible exact r11_Same.mono _ _ _)
   | (with_reducible exact LeO.refl _)
   | (with_reducible exact LeO.none _)
   | (with_reducible refine LeO.ite ?_ ?_)
   | (with_reducible refine LeO.bind ?_ (fun _ => ?_))
   | exact ih0 _ _ _ _ _ _ _
   | exact ih1 _ _ _ _ _ _ _
   | exact ih2 _ _ _ _ _ _ _ _
   | exact ih3 _ _ _ _ _ _
   | exact l11_sanity.mono _
   | exact r11_Same.mono _ _ _
   | exact LeO.none _
   | refine LeO.ite ?_ ?_
   | refine LeO.bind ?_ (fun _ => ?_)
  ·intro y0 y1 y2 y3 y4 y5 y6
   unfold l11_SpanLaws.j1
   repeat' first
   | (with_reducible exact ih0 _ _ _ _ _ _ _)
   | (with_reducible exact ih1 _ _ _ _ _ _ _)
   | (with_reducible exact ih2 _ _ _ _ _ _ _ _)
   | (with_reducible exact ih3 _ _ _ _ _ _)
   | (with_reducible exact l11_sanity.mono _)
   | (with_reducible exact r11_Same.mono _ _ _)
   | (with_reducible exact LeO.refl _)
   | (with_reducible exact LeO.none _)
   | (with_reducible refine LeO.ite ?_ ?_)
   | (with_reducible refine LeO.bind ?_ (fun _ => ?_))
   | exact ih0 _ _ _ _ _ _ _
   | exact ih1 _ _ _ _ _ _ _
   | exact ih2 _ _ _ _ _ _ _ _
   | exact ih3 _ _ _ _ _ _
   | exact l11_sanity.mono _
   | exact r11_Same.mono _ _ _
   | exact LeO.none _
   | refine LeO.ite ?_ ?_
   | refine LeO.bind ?_ (fun _ => ?_)
  ·intro y0 y1 y2 y3 y4 y5 y6 y7
   unfold l11_SpanLaws.j2
   repeat' first
   | (with_reducible exact ih0 _ _ _ _ _ _ _)
   | (with_reducible exact ih1 _ _ _ _ _ _ _)
   | (with_reducible exact ih2 _ _ _ _ _ _ _ _)
   | (with_reducible exact ih3 _ _ _ _ _ _)
   | (with_reducible exact l11_sanity.mono _)
   | (with_reducible exact r11_Same.mono _ _ _)
   | (with_reducible exact LeO.refl _)
   | (with_reducible exact LeO.none _)
   | (with_reducible refine LeO.ite ?_ ?_)
   | (with_reducible refine LeO.bind ?_ (fun _ => ?_))
   | exact ih0 _ _ _ _ _ _ _
   | exact ih1 _ _ _ _ _ _ _
   | exact ih2 _ _ _ _ _ _ _ _
   | exact ih3 _ _ _ _ _ _
   | exact l11_sanity.mono _
   | exact r11_Same.mono _ _ _
   | exact LeO.none _
   | refine LeO.ite ?_ ?_
   | refine LeO.bind ?_ (fun _ => ?_)
  ·intro y0 y1 y2 y3 y4 y5
   unfold l11_SpanLaws.j3
   repeat' first
   | (with_reducible exact ih0 _ _ _ _ _ _ _)
   | (with_reducible exact ih1 _ _ _ _ _ _ _)
   | (with_reducible exact ih2 _ _ _ _ _ _ _ _)
   | (with_reducible exact ih3 _ _ _ _ _ _)
   | (with_reducible exact l11_sanity.mono _)
   | (with_reducible exact r11_Same.mono _ _ _)
   | (with_reducible exact LeO.refl _)
   | (with_reducible exact LeO.none _)
   | (with_reducible refine LeO.ite ?_ ?_)
   | (with_reducible refine LeO.bind ?_ (fun _ => ?_))
   | exact ih0 _ _ _ _ _ _ _
   | exact ih1 _ _ _ _ _ _ _
   | exact ih2 _ _ _ _ _ _ _ _
   | exact ih3 _ _ _ _ _ _
   | exact l11_sanity.mono _
   | exact r11_Same.mono _ _ _
   | exact LeO.none _
   | refine LeO.ite ?_ ?_
   | refine LeO.bind ?_ (fun _ => ?_)
theorem l11_SpanLaws.mono : ∀ a0 a1 a2 k, LeO (l11_SpanLaws.f k a0 a1 a2) (l11_SpanLaws.f (k + 1) a0 a1 a2) := by
 intro a0 a1 a2 k
 obtain ⟨ih0, ih1, ih2, ih3⟩ := l11_SpanLaws.mono_l k
 unfold l11_SpanLaws.f
 repeat' first
   | (with_reducible exact ih0 _ _ _ _ _ _ _)
   | (with_reducible exact ih1 _ _ _ _ _ _ _)
   | (with_reducible exact ih2 _ _ _ _ _ _ _ _)
   | (with_reducible exact ih3 _ _ _ _ _ _)
   | (with_reducible exact l11_sanity.mono _)
   | (with_reducible exact r11_Same.mono _ _ _)
   | (with_reducible exact LeO.refl _)
   | (with_reducible exact LeO.none _)
   | (with_reducible refine LeO.ite ?_ ?_)
   | (with_reducible refine LeO.bind ?_ (fun _ => ?_))
   | exact ih0 _ _ _ _ _ _ _
   | exact ih1 _ _ _ _ _ _ _
   | exact ih2 _ _ _ _ _ _ _ _
   | exact ih3 _ _ _ _ _ _
   | exact l11_sanity.mono _
   | exact r11_Same.mono _ _ _
   | exact LeO.none _
   | refine LeO.ite ?_ ?_
   | refine LeO.bind ?_ (fun _ => ?_)
set_option maxHeartbeats 8000000 in
set_option maxRecDepth 100000 in
theorem l11_SpanLaws.calls (k : Nat) (A0 : Option Addr) (c0 : Nat) (l0 : List (S24)) (A1 : Option Addr) (c1 : Nat) (l1 : List (S24)) (A2 : Option Addr) (c2 : Nat) (l2 : List (S24)) (r : Bool) (w : World) (hr0 : Kd.C k24 w A0 l0.length l0) (hc0 : l0.length ≤ c0) (hr1 : Kd.C k24 w A1 l1.length l1) (hc1 : l1.length ≤ c1) (hr2 : Kd.C k24 w A2 l2.length l2) (hc2 : l2.length ≤ c2) (hr : r = true) (h : l11_SpanLaws.f k l0 l1 l2 = some r) :
  Calls Try.prog 6 #[.slice A0 l0.length c0, .slice A1 l1.length c1, .slice A2 l2.length c2] w fun e w' => e = .returned (.bool r) ∧ Below w.heap.size w w' := by
 have HR0 := Aside0.mk hr0
 have HC0 := Aside0.mk hc0
 clear hr0 hc0
 have HR1 := Aside0.mk hr1
 have HC1 := Aside0.mk hc1
 clear hr1 hc1
 have HR2 := Aside0.mk hr2
 have HC2 := Aside0.mk hc2
 clear hr2 hc2
 have HB := Aside0.mk (Below.refl w.heap.size w)
 have HLAW := Aside0.mk hr
 clear hr
 have H : ((l11_sanity.f k).bind fun t419 => ((l11_short.f l0).bind fun t420 => ((l11_short.f l1).bind fun t423 => ((l11_short.f l2).bind fun t426 => ((span_Union.f t420 t423).bind fun t429 => ((span_Meet.f t423 t426).bind fun t432 => (if (t429.length : Int) > 24 then (l11_SpanLaws.j0 k t419 t420 t423 t426 t429 t432 true) else (l11_SpanLaws.j0 k t419 t420 t423 t426 t429 t432 (decide ((t432.length : Int) > 24)))))))))) = some r := h
 clear h
 replace H := Option.bind_eq_some_iff.mp H
 obtain ⟨t419, A40, H⟩ := H
 replace H : ((l11_short.f l0).bind fun t420 => ((l11_short.f l1).bind fun t423 => ((l11_short.f l2).bind fun t426 => ((span_Union.f t420 t423).bind fun t429 => ((span_Meet.f t423 t426).bind fun t432 => (if (t429.length : Int) > 24 then (l11_SpanLaws.j0 k t419 t420 t423 t426 t429 t432 true) else (l11_SpanLaws.j0 k t419 t420 t423 t426 t429 t432 (decide ((t432.length : Int) > 24))))))))) = some r := H
 have A4 := Aside0.mk A40
 clear A40
 replace H := Option.bind_eq_some_iff.mp H
 obtain ⟨t420, A50, H⟩ := H
 replace H : ((l11_short.f l1).bind fun t423 => ((l11_short.f l2).bind fun t426 => ((span_Union.f t420 t423).bind fun t429 => ((span_Meet.f t423 t426).bind fun t432 => (if (t429.length : Int) > 24 then (l11_SpanLaws.j0 k t419 t420 t423 t426 t429 t432 true) else (l11_SpanLaws.j0 k t419 t420 t423 t426 t429 t432 (decide ((t432.length : Int) > 24)))))))) = some r := H
 have A5 := Aside0.mk A50
 clear A50
 replace H := Option.bind_eq_some_iff.mp H
 obtain ⟨t423, A60, H⟩ := H
 replace H : ((l11_short.f l2).bind fun t426 => ((span_Union.f t420 t423).bind fun t429 => ((span_Meet.f t423 t426).bind fun t432 => (if (t429.length : Int) > 24 then (l11_SpanLaws.j0 k t419 t420 t423 t426 t429 t432 true) else (l11_SpanLaws.j0 k t419 t420 t423 t426 t429 t432 (decide ((t432.length : Int) > 24))))))) = some r := H
 have A6 := Aside0.mk A60
 clear A60
 replace H := Option.bind_eq_some_iff.mp H
 obtain ⟨t426, A70, H⟩ := H
 replace H : ((span_Union.f t420 t423).bind fun t429 => ((span_Meet.f t423 t426).bind fun t432 => (if (t429.length : Int) > 24 then (l11_SpanLaws.j0 k t419 t420 t423 t426 t429 t432 true) else (l11_SpanLaws.j0 k t419 t420 t423 t426 t429 t432 (decide ((t432.length : Int) > 24)))))) = some r := H
 have A7 := Aside0.mk A70
 clear A70
 replace H := Option.bind_eq_some_iff.mp H
 obtain ⟨t429, A80, H⟩ := H
 replace H : ((span_Meet.f t423 t426).bind fun t432 => (if (t429.length : Int) > 24 then (l11_SpanLaws.j0 k t419 t420 t423 t426 t429 t432 true) else (l11_SpanLaws.j0 k t419 t420 t423 t426 t429 t432 (decide ((t432.length : Int) > 24))))) = some r := H
 have A8 := Aside0.mk A80
 clear A80
 replace H := Option.bind_eq_some_iff.mp H
 obtain ⟨t432, A90, H⟩ := H
 replace H : (if (t429.length : Int) > 24 then (l11_SpanLaws.j0 k t419 t420 t423 t426 t429 t432 true) else (l11_SpanLaws.j0 k t419 t420 t423 t426 t429 t432 (decide ((t432.length : Int) > 24)))) = some r := H
 have A9 := Aside0.mk A90
 clear A90
 have HC10 := Aside0.mk H
 clear H
 go_enter Try.func6, Try.ntmps6
 go_upto_region 4 with (first | ((with_reducible refine gate_callee (f := 10) rfl ?_); refine goesL_ (some 17) rfl rfl Try.func10 (by kernel_rfl) rfl #[] rfl (by (try simp only [List.map_toArray, List.map_cons, List.map_nil]); first | done | rfl | (simp only [List.length_drop, List.length_take]; rfl)) ?_; (with_reducible refine (l11_sanity.calls k  t419 _ A4.out).mono ?_); rintro e w11 ⟨rfl, hb⟩; refine ⟨_, rfl, ?_⟩; have n0_ := Aside0.mk (below_step (bZ HB.out) hb); clear HB; have HB := n0_; clear n0_; (try clear hb); (try clear hb2); (try clear hk); (try clear hi)) | ((with_reducible refine gate_callee (f := 11) rfl ?_); refine goesL_ (some 19) rfl rfl Try.func11 (by kernel_rfl) rfl #[.slice A0 l0.length c0] rfl (by (try simp only [List.map_toArray, List.map_cons, List.map_nil]); first | done | rfl | (simp only [List.length_drop, List.length_take]; rfl)) ?_; (with_reducible refine (l11_short.calls _ _ l0 t420 _ ?side1 ?side2 A5.out).mono ?_); (case side1 => repeat (first | exact (Kd.C_below HR0.out HB.out) | (with_reducible refine Kd.C_alloc ?_ _) | (with_reducible refine Kd.C_drewN ?_ _) | (with_reducible refine Kd.C_drew ?_))); (case side2 => exact HC0.out); rintro e w12 ⟨v421, rfl, ho0, hb⟩; refine ⟨_, rfl, ?_⟩; have n0_ := Aside0.mk (Kd.R_lower ho0 (below_size (bZ HB.out))); have n1_ := Aside0.mk (below_step (bZ HB.out) hb); clear HB; have HO422 := n0_; have HB := n1_; clear n0_ n1_; (try clear hb); (try clear hb2); (try clear hk); (try clear hi); (try clear ho0)) | ((with_reducible refine gate_callee (f := 11) rfl ?_); refine goesL_ (some 21) rfl rfl Try.func11 (by kernel_rfl) rfl #[.slice A1 l1.length c1] rfl (by (try simp only [List.map_toArray, List.map_cons, List.map_nil]); first | done | rfl | (simp only [List.length_drop, List.length_take]; rfl)) ?_; (with_reducible refine (l11_short.calls _ _ l1 t423 _ ?side1 ?side2 A6.out).mono ?_); (case side1 => repeat (first | exact (Kd.C_below HR1.out HB.out) | (with_reducible refine Kd.C_alloc ?_ _) | (with_reducible refine Kd.C_drewN ?_ _) | (with_reducible refine Kd.C_drew ?_))); (case side2 => exact HC1.out); rintro e w13 ⟨v424, rfl, ho0, hb⟩; refine ⟨_, rfl, ?_⟩; have n0_ := Aside0.mk (Kd.R_elder' (rZ HO422.out) (Kd.R_base ho0) hb); have n1_ := Aside0.mk (Kd.R_lower (Kd.R_new' ho0 (Kd.R_lt (rZ HO422.out))) (below_size (bZ HB.out))); have n2_ := Aside0.mk (below_step (bZ HB.out) hb); clear HO422; clear HB; have HO422 := n0_; have HO425 := n1_; have HB := n2_; clear n0_ n1_ n2_; (try clear hb); (try clear hb2); (try clear hk); (try clear hi); (try clear ho0)) | ((with_reducible refine gate_callee (f := 11) rfl ?_); refine goesL_ (some 23) rfl rfl Try.func11 (by kernel_rfl) rfl #[.slice A2 l2.length c2] rfl (by (try simp only [List.map_toArray, List.map_cons, List.map_nil]); first | done | rfl | (simp only [List.length_drop, List.length_take]; rfl)) ?_; (with_reducible refine (l11_short.calls _ _ l2 t426 _ ?side1 ?side2 A7.out).mono ?_); (case side1 => repeat (first | exact (Kd.C_below HR2.out HB.out) | (with_reducible refine Kd.C_alloc ?_ _) | (with_reducible refine Kd.C_drewN ?_ _) | (with_reducible refine Kd.C_drew ?_))); (case side2 => exact HC2.out); rintro e w14 ⟨v427, rfl, ho0, hb⟩; refine ⟨_, rfl, ?_⟩; have n0_ := Aside0.mk (Kd.R_elder' (rZ HO422.out) (Kd.R_base ho0) hb); have n1_ := Aside0.mk (Kd.R_elder' (rZ HO425.out) (Kd.R_base ho0) hb); have n2_ := Aside0.mk (Kd.R_lower (Kd.R_new' (Kd.R_new' ho0 (Kd.R_lt (rZ HO422.out))) (Kd.R_lt (rZ HO425.out))) (below_size (bZ HB.out))); have n3_ := Aside0.mk (below_step (bZ HB.out) hb); clear HO422; clear HO425; clear HB; have HO422 := n0_; have HO425 := n1_; have HO428 := n2_; have HB := n3_; clear n0_ n1_ n2_ n3_; (try clear hb); (try clear hb2); (try clear hk); (try clear hi); (try clear ho0); obtain ⟨Ao15, co15, eo15⟩ := Kd.R_slice HO422.out; subst eo15; obtain ⟨Ao16, co16, eo16⟩ := Kd.R_slice HO425.out; subst eo16) | ((with_reducible refine gate_callee (f := 17) rfl ?_); refine goesL_ (some 26) rfl rfl Try.func17 (by kernel_rfl) rfl #[.slice Ao15 t420.length co15, .slice Ao16 t423.length co16] rfl (by (try simp only [List.map_toArray, List.map_cons, List.map_nil]); first | done | rfl | (simp only [List.length_drop, List.length_take]; rfl)) ?_; (with_reducible refine (span_Union.calls _ _ t420 _ _ t423 t429 _ ?side1 ?side2 ?side3 ?side4 A8.out).mono ?_); (case side1 => repeat (first | exact (Kd.R_reads' HO422.out).2.2 | (with_reducible refine Kd.C_alloc ?_ _) | (with_reducible refine Kd.C_drewN ?_ _) | (with_reducible refine Kd.C_drew ?_))); (case side2 => exact (Kd.R_reads' HO422.out).2.1); (case side3 => repeat (first | exact (Kd.R_reads' HO425.out).2.2 | (with_reducible refine Kd.C_alloc ?_ _) | (with_reducible refine Kd.C_drewN ?_ _) | (with_reducible refine Kd.C_drew ?_))); (case side4 => exact (Kd.R_reads' HO425.out).2.1); rintro e w17 ⟨v430, rfl, ho0, hb⟩; refine ⟨_, rfl, ?_⟩; have n0_ := Aside0.mk (Kd.R_elder' (rZ HO422.out) (Kd.R_base ho0) hb); have n1_ := Aside0.mk (Kd.R_elder' (rZ HO425.out) (Kd.R_base ho0) hb); have n2_ := Aside0.mk (Kd.R_elder' (rZ HO428.out) (Kd.R_base ho0) hb); have n3_ := Aside0.mk (Kd.R_lower (Kd.R_new' (Kd.R_new' (Kd.R_new' ho0 (Kd.R_lt (rZ HO422.out))) (Kd.R_lt (rZ HO425.out))) (Kd.R_lt (rZ HO428.out))) (below_size (bZ HB.out))); have n4_ := Aside0.mk (below_step (bZ HB.out) hb); clear HO422; clear HO425; clear HO428; clear HB; have HO422 := n0_; have HO425 := n1_; have HO428 := n2_; have HO431 := n3_; have HB := n4_; clear n0_ n1_ n2_ n3_ n4_; (try clear hb); (try clear hb2); (try clear hk); (try clear hi); (try clear ho0); obtain ⟨Ao18, co18, eo18⟩ := Kd.R_slice HO428.out; subst eo18) | ((with_reducible refine gate_callee (f := 19) rfl ?_); refine goesL_ (some 29) rfl rfl Try.func19 (by kernel_rfl) rfl #[.slice Ao16 t423.length co16, .slice Ao18 t426.length co18] rfl (by (try simp only [List.map_toArray, List.map_cons, List.map_nil]); first | done | rfl | (simp only [List.length_drop, List.length_take]; rfl)) ?_; (with_reducible refine (span_Meet.calls _ _ t423 _ _ t426 t432 _ ?side1 ?side2 ?side3 ?side4 A9.out).mono ?_); (case side1 => repeat (first | exact (Kd.R_reads' HO425.out).2.2 | (with_reducible refine Kd.C_alloc ?_ _) | (with_reducible refine Kd.C_drewN ?_ _) | (with_reducible refine Kd.C_drew ?_))); (case side2 => exact (Kd.R_reads' HO425.out).2.1); (case side3 => repeat (first | exact (Kd.R_reads' HO428.out).2.2 | (with_reducible refine Kd.C_alloc ?_ _) | (with_reducible refine Kd.C_drewN ?_ _) | (with_reducible refine Kd.C_drew ?_))); (case side4 => exact (Kd.R_reads' HO428.out).2.1); rintro e w19 ⟨v433, rfl, ho0, hb⟩; refine ⟨_, rfl, ?_⟩; have n0_ := Aside0.mk (Kd.R_elder' (rZ HO422.out) (Kd.R_base ho0) hb); have n1_ := Aside0.mk (Kd.R_elder' (rZ HO425.out) (Kd.R_base ho0) hb); have n2_ := Aside0.mk (Kd.R_elder' (rZ HO428.out) (Kd.R_base ho0) hb); have n3_ := Aside0.mk (Kd.R_elder' (rZ HO431.out) (Kd.R_base ho0) hb); have n4_ := Aside0.mk (Kd.R_lower (Kd.R_new' (Kd.R_new' (Kd.R_new' (Kd.R_new' ho0 (Kd.R_lt (rZ HO422.out))) (Kd.R_lt (rZ HO425.out))) (Kd.R_lt (rZ HO428.out))) (Kd.R_lt (rZ HO431.out))) (below_size (bZ HB.out))); have n5_ := Aside0.mk (below_step (bZ HB.out) hb); clear HO422; clear HO425; clear HO428; clear HO431; clear HB; have HO422 := n0_; have HO425 := n1_; have HO428 := n2_; have HO431 := n3_; have HO434 := n4_; have HB := n5_; clear n0_ n1_ n2_ n3_ n4_ n5_; (try clear hb); (try clear hb2); (try clear hk); (try clear hi); (try clear ho0)))
 (try simp only [Act.put, List.setIfInBounds_toArray, List.set_cons_zero, List.set_cons_succ])
 go_cut [37] (fun v37 wc => ∃ (kq : Nat) (x37_9 : Bool), v37 = .bool x37_9 ∧ Aside0 (l11_SpanLaws.j0 kq t419 t420 t423 t426 t429 t432 x37_9 = some r) ∧ Aside0 (kq ≤ k) ∧ Aside0 (Kd.R k24 24 wc w.heap.size (fun k_ => some k_ ≠ ((.slice Ao16 t423.length co16) : Value).ownBlock ∧ some k_ ≠ ((.slice Ao18 t426.length co18) : Value).ownBlock ∧ some k_ ≠ (v430 : Value).ownBlock ∧ some k_ ≠ (v433 : Value).ownBlock) (.slice Ao15 t420.length co15) t420) ∧ Aside0 (Kd.R k24 24 wc w.heap.size (fun k_ => some k_ ≠ ((.slice Ao15 t420.length co15) : Value).ownBlock ∧ some k_ ≠ ((.slice Ao18 t426.length co18) : Value).ownBlock ∧ some k_ ≠ (v430 : Value).ownBlock ∧ some k_ ≠ (v433 : Value).ownBlock) (.slice Ao16 t423.length co16) t423) ∧ Aside0 (Kd.R k24 24 wc w.heap.size (fun k_ => some k_ ≠ ((.slice Ao15 t420.length co15) : Value).ownBlock ∧ some k_ ≠ ((.slice Ao16 t423.length co16) : Value).ownBlock ∧ some k_ ≠ (v430 : Value).ownBlock ∧ some k_ ≠ (v433 : Value).ownBlock) (.slice Ao18 t426.length co18) t426) ∧ Aside0 (Kd.R k24 24 wc w.heap.size (fun k_ => some k_ ≠ ((.slice Ao15 t420.length co15) : Value).ownBlock ∧ some k_ ≠ ((.slice Ao16 t423.length co16) : Value).ownBlock ∧ some k_ ≠ ((.slice Ao18 t426.length co18) : Value).ownBlock ∧ some k_ ≠ (v433 : Value).ownBlock) v430 t429) ∧ Aside0 (Kd.R k24 24 wc w.heap.size (fun k_ => some k_ ≠ ((.slice Ao15 t420.length co15) : Value).ownBlock ∧ some k_ ≠ ((.slice Ao16 t423.length co16) : Value).ownBlock ∧ some k_ ≠ ((.slice Ao18 t426.length co18) : Value).ownBlock ∧ some k_ ≠ (v430 : Value).ownBlock) v433 t432) ∧ Aside0 (Below w.heap.size w wc))
 case first =>
  have H := HC10.out
  clear HC10
  by_cases c20 : (t429.length : Int) > 24
  ·rw [if_pos c20] at H
   have c20b0 : decide (24 < (t429.length : Int)) = true := decide_eq_true c20
   have c20b1 : decide (24 < t429.length) = true := decide_eq_true (by omega)
   clear c20
   (first | rw [c20b0] | (simp only [i64_w, i32_w]; rw [c20b0]) | skip)
   have H' := Aside0.mk H
   clear H
   obtain ⟨Ao21, co21, eo21⟩ := Kd.R_slice HO431.out
   subst eo21
   go_wp2
   go_meet
   case rel => exact ⟨_, (true), (by first | rfl | (simp; done) | (simp [*]; done)), H', ⟨by first | omega | exact Nat.le_refl _⟩, ⟨by (with_reducible repeat (first | apply Kd.R_alloc | apply Kd.R_drewN | apply Kd.R_drew)); exact Kd.R_mono HO422.out (fun _ hk => ⟨hk.1.1.1.2, ⟨hk.1.1.2, ⟨hk.1.2, hk.2⟩⟩⟩)⟩, ⟨by (with_reducible repeat (first | apply Kd.R_alloc | apply Kd.R_drewN | apply Kd.R_drew)); exact Kd.R_mono HO425.out (fun _ hk => ⟨hk.1.1.1.2, ⟨hk.1.1.2, ⟨hk.1.2, hk.2⟩⟩⟩)⟩, ⟨by (with_reducible repeat (first | apply Kd.R_alloc | apply Kd.R_drewN | apply Kd.R_drew)); exact Kd.R_mono HO428.out (fun _ hk => ⟨hk.1.1.1.2, ⟨hk.1.1.2, ⟨hk.1.2, hk.2⟩⟩⟩)⟩, ⟨by (with_reducible repeat (first | apply Kd.R_alloc | apply Kd.R_drewN | apply Kd.R_drew)); exact Kd.R_mono HO431.out (fun _ hk => ⟨hk.1.1.1.2, ⟨hk.1.1.2, ⟨hk.1.2, hk.2⟩⟩⟩)⟩, ⟨by (with_reducible repeat (first | apply Kd.R_alloc | apply Kd.R_drewN | apply Kd.R_drew)); exact Kd.R_mono HO434.out (fun _ hk => ⟨hk.1.1.1.2, ⟨hk.1.1.2, ⟨hk.1.2, hk.2⟩⟩⟩)⟩, ⟨by repeat (first | (with_reducible first | exact HB.out | apply below_alloc | apply pw_below_drewN | apply below_drew1) | exact HB.out)⟩⟩
  ·rw [if_neg c20] at H
   have c20b0 : decide (24 < (t429.length : Int)) = false := decide_eq_false c20
   have c20b1 : decide (24 < t429.length) = false := decide_eq_false (by omega)
   clear c20
   (first | rw [c20b0] | (simp only [i64_w, i32_w]; rw [c20b0]) | skip)
   have H' := Aside0.mk H
   clear H
   obtain ⟨Ao22, co22, eo22⟩ := Kd.R_slice HO431.out
   subst eo22
   obtain ⟨Ao23, co23, eo23⟩ := Kd.R_slice HO434.out
   subst eo23
   go_wp2
   go_meet
   case rel => exact ⟨_, (decide ((t432.length : Int) > 24)), (by first | rfl | (simp; done) | (simp [*]; done)), H', ⟨by first | omega | exact Nat.le_refl _⟩, ⟨by (with_reducible repeat (first | apply Kd.R_alloc | apply Kd.R_drewN | apply Kd.R_drew)); exact Kd.R_mono HO422.out (fun _ hk => ⟨hk.1.1.1.2, ⟨hk.1.1.2, ⟨hk.1.2, hk.2⟩⟩⟩)⟩, ⟨by (with_reducible repeat (first | apply Kd.R_alloc | apply Kd.R_drewN | apply Kd.R_drew)); exact Kd.R_mono HO425.out (fun _ hk => ⟨hk.1.1.1.2, ⟨hk.1.1.2, ⟨hk.1.2, hk.2⟩⟩⟩)⟩, ⟨by (with_reducible repeat (first | apply Kd.R_alloc | apply Kd.R_drewN | apply Kd.R_drew)); exact Kd.R_mono HO428.out (fun _ hk => ⟨hk.1.1.1.2, ⟨hk.1.1.2, ⟨hk.1.2, hk.2⟩⟩⟩)⟩, ⟨by (with_reducible repeat (first | apply Kd.R_alloc | apply Kd.R_drewN | apply Kd.R_drew)); exact Kd.R_mono HO431.out (fun _ hk => ⟨hk.1.1.1.2, ⟨hk.1.1.2, ⟨hk.1.2, hk.2⟩⟩⟩)⟩, ⟨by (with_reducible repeat (first | apply Kd.R_alloc | apply Kd.R_drewN | apply Kd.R_drew)); exact Kd.R_mono HO434.out (fun _ hk => ⟨hk.1.1.1.2, ⟨hk.1.1.2, ⟨hk.1.2, hk.2⟩⟩⟩)⟩, ⟨by repeat (first | (with_reducible first | exact HB.out | apply below_alloc | apply pw_below_drewN | apply below_drew1) | exact HB.out)⟩⟩
 case rest =>
  clear HC10
  try clear c1
  try clear c2
  try clear p2
  try clear c6
  try clear c10
  try clear c11
  try clear c17
  try clear c19
  try clear c20
  try clear c20b0
  try clear c20b1
  obtain ⟨kq, x37_9, rfl, HA, HJ9, HO_8, HO_9, HO_10, HO_11, HO_12, HB⟩ := hcut
  cases kq with
  | zero => exact absurd HA.out (by simp [l11_SpanLaws.j0])
  | succ kj9 =>
   have H := HA.out
   clear HA
   simp only [l11_SpanLaws.j0] at H
   by_cases c24 : x37_9 = true
   ·subst c24
    have H1 : (some false) = some r := by rw [if_pos rfl] at H; exact H
    clear H
    have H := H1
    clear H1
    exact absurd ((Option.some.inj H).trans HLAW.out) (by decide)
   ·replace c24 := Bool.eq_false_iff.mpr c24
    subst c24
    have H1 : ((span_Union.f t423 t420).bind fun t435 => ((r11_Same.f kj9 t435 t429).bind fun t438 => (if t438 = true then ((span_Meet.f t426 t423).bind fun t439 => ((r11_Same.f kj9 t439 t432).bind fun t442 => (l11_SpanLaws.j1 kj9 t419 t420 t423 t426 t429 t432 t442))) else (l11_SpanLaws.j1 kj9 t419 t420 t423 t426 t429 t432 false)))) = some r := by rw [if_neg (show ¬ (false = true) by decide)] at H; exact H
    clear H
    have H := H1
    clear H1
    have HC25 := Aside0.mk H
    clear H
    go_upto_region 6 with (fail)
    go_cut [13] (fun v13 wc => ∃ (kq : Nat) (x13_24 : Bool), v13 = .bool x13_24 ∧ Aside0 (l11_SpanLaws.j1 kq t419 t420 t423 t426 t429 t432 x13_24 = some r) ∧ Aside0 (kq ≤ kj9) ∧ Aside0 (Kd.R k24 24 wc w.heap.size (fun k_ => some k_ ≠ ((.slice Ao16 t423.length co16) : Value).ownBlock ∧ some k_ ≠ ((.slice Ao18 t426.length co18) : Value).ownBlock ∧ some k_ ≠ (v430 : Value).ownBlock ∧ some k_ ≠ (v433 : Value).ownBlock) (.slice Ao15 t420.length co15) t420) ∧ Aside0 (Kd.R k24 24 wc w.heap.size (fun k_ => some k_ ≠ ((.slice Ao15 t420.length co15) : Value).ownBlock ∧ some k_ ≠ ((.slice Ao18 t426.length co18) : Value).ownBlock ∧ some k_ ≠ (v430 : Value).ownBlock ∧ some k_ ≠ (v433 : Value).ownBlock) (.slice Ao16 t423.length co16) t423) ∧ Aside0 (Kd.R k24 24 wc w.heap.size (fun k_ => some k_ ≠ ((.slice Ao15 t420.length co15) : Value).ownBlock ∧ some k_ ≠ ((.slice Ao16 t423.length co16) : Value).ownBlock ∧ some k_ ≠ (v430 : Value).ownBlock ∧ some k_ ≠ (v433 : Value).ownBlock) (.slice Ao18 t426.length co18) t426) ∧ Aside0 (Kd.R k24 24 wc w.heap.size (fun k_ => some k_ ≠ ((.slice Ao15 t420.length co15) : Value).ownBlock ∧ some k_ ≠ ((.slice Ao16 t423.length co16) : Value).ownBlock ∧ some k_ ≠ ((.slice Ao18 t426.length co18) : Value).ownBlock ∧ some k_ ≠ (v433 : Value).ownBlock) v430 t429) ∧ Aside0 (Kd.R k24 24 wc w.heap.size (fun k_ => some k_ ≠ ((.slice Ao15 t420.length co15) : Value).ownBlock ∧ some k_ ≠ ((.slice Ao16 t423.length co16) : Value).ownBlock ∧ some k_ ≠ ((.slice Ao18 t426.length co18) : Value).ownBlock ∧ some k_ ≠ (v430 : Value).ownBlock) v433 t432) ∧ Aside0 (Below w.heap.size w wc))
    case first =>
     have H := HC25.out
     clear HC25
     replace H := Option.bind_eq_some_iff.mp H
     obtain ⟨t435, A260, H⟩ := H
     replace H : ((r11_Same.f kj9 t435 t429).bind fun t438 => (if t438 = true then ((span_Meet.f t426 t423).bind fun t439 => ((r11_Same.f kj9 t439 t432).bind fun t442 => (l11_SpanLaws.j1 kj9 t419 t420 t423 t426 t429 t432 t442))) else (l11_SpanLaws.j1 kj9 t419 t420 t423 t426 t429 t432 false))) = some r := H
     have A26 := Aside0.mk A260
     clear A260
     replace H := Option.bind_eq_some_iff.mp H
     obtain ⟨t438, A270, H⟩ := H
     replace H : (if t438 = true then ((span_Meet.f t426 t423).bind fun t439 => ((r11_Same.f kj9 t439 t432).bind fun t442 => (l11_SpanLaws.j1 kj9 t419 t420 t423 t426 t429 t432 t442))) else (l11_SpanLaws.j1 kj9 t419 t420 t423 t426 t429 t432 false)) = some r := H
     have A27 := Aside0.mk A270
     clear A270
     by_cases c28 : t438 = true
     ·subst c28
      have H1 : ((span_Meet.f t426 t423).bind fun t439 => ((r11_Same.f kj9 t439 t432).bind fun t442 => (l11_SpanLaws.j1 kj9 t419 t420 t423 t426 t429 t432 t442))) = some r := by rw [if_pos rfl] at H; exact H
      clear H
      have H := H1
      clear H1
      replace H := Option.bind_eq_some_iff.mp H
      obtain ⟨t439, A290, H⟩ := H
      replace H : ((r11_Same.f kj9 t439 t432).bind fun t442 => (l11_SpanLaws.j1 kj9 t419 t420 t423 t426 t429 t432 t442)) = some r := H
      have A29 := Aside0.mk A290
      clear A290
      replace H := Option.bind_eq_some_iff.mp H
      obtain ⟨t442, A300, H⟩ := H
      replace H : (l11_SpanLaws.j1 kj9 t419 t420 t423 t426 t429 t432 t442) = some r := H
      have A30 := Aside0.mk A300
      clear A300
      have H' := Aside0.mk H
      clear H
      go_wp2_with (first | ((with_reducible refine gate_callee (f := 17) rfl ?_); refine goesL_ (some 40) rfl rfl Try.func17 (by kernel_rfl) rfl #[.slice Ao16 t423.length co16, .slice Ao15 t420.length co15] rfl (by (try simp only [List.map_toArray, List.map_cons, List.map_nil]); first | done | rfl | (simp only [List.length_drop, List.length_take]; rfl)) ?_; (with_reducible refine (span_Union.calls _ _ t423 _ _ t420 t435 _ ?side1 ?side2 ?side3 ?side4 A26.out).mono ?_); (case side1 => repeat (first | exact (Kd.R_reads' HO_9.out).2.2 | (with_reducible refine Kd.C_alloc ?_ _) | (with_reducible refine Kd.C_drewN ?_ _) | (with_reducible refine Kd.C_drew ?_))); (case side2 => exact (Kd.R_reads' HO_9.out).2.1); (case side3 => repeat (first | exact (Kd.R_reads' HO_8.out).2.2 | (with_reducible refine Kd.C_alloc ?_ _) | (with_reducible refine Kd.C_drewN ?_ _) | (with_reducible refine Kd.C_drew ?_))); (case side4 => exact (Kd.R_reads' HO_8.out).2.1); rintro e w31 ⟨v436, rfl, ho0, hb⟩; refine ⟨_, rfl, ?_⟩; have n0_ := Aside0.mk (Kd.R_elder' (rZ HO_8.out) (Kd.R_base ho0) hb); have n1_ := Aside0.mk (Kd.R_elder' (rZ HO_9.out) (Kd.R_base ho0) hb); have n2_ := Aside0.mk (Kd.R_elder' (rZ HO_10.out) (Kd.R_base ho0) hb); have n3_ := Aside0.mk (Kd.R_elder' (rZ HO_11.out) (Kd.R_base ho0) hb); have n4_ := Aside0.mk (Kd.R_elder' (rZ HO_12.out) (Kd.R_base ho0) hb); have n5_ := Aside0.mk (Kd.R_lower (Kd.R_new' (Kd.R_new' (Kd.R_new' (Kd.R_new' (Kd.R_new' ho0 (Kd.R_lt (rZ HO_8.out))) (Kd.R_lt (rZ HO_9.out))) (Kd.R_lt (rZ HO_10.out))) (Kd.R_lt (rZ HO_11.out))) (Kd.R_lt (rZ HO_12.out))) (below_size (bZ HB.out))); have n6_ := Aside0.mk (below_step (bZ HB.out) hb); clear HO_8; clear HO_9; clear HO_10; clear HO_11; clear HO_12; clear HB; have HO_8 := n0_; have HO_9 := n1_; have HO_10 := n2_; have HO_11 := n3_; have HO_12 := n4_; have HO437 := n5_; have HB := n6_; clear n0_ n1_ n2_ n3_ n4_ n5_ n6_; (try clear hb); (try clear hb2); (try clear hk); (try clear hi); (try clear ho0); obtain ⟨Ao32, co32, eo32⟩ := Kd.R_slice HO437.out; subst eo32; obtain ⟨Ao33, co33, eo33⟩ := Kd.R_slice HO_11.out; subst eo33) | ((with_reducible refine gate_callee (f := 14) rfl ?_); refine goesL_ (some 42) rfl rfl Try.func14 (by kernel_rfl) rfl #[.slice Ao32 t435.length co32, .slice Ao33 t429.length co33] rfl (by (try simp only [List.map_toArray, List.map_cons, List.map_nil]); first | done | rfl | (simp only [List.length_drop, List.length_take]; rfl)) ?_; (with_reducible refine (r11_Same.calls kj9 _ _ t435 _ _ t429 true _ ?side1 ?side2 ?side3 ?side4 A27.out).mono ?_); (case side1 => repeat (first | exact (Kd.R_reads' HO437.out).2.2 | (with_reducible refine Kd.C_alloc ?_ _) | (with_reducible refine Kd.C_drewN ?_ _) | (with_reducible refine Kd.C_drew ?_))); (case side2 => exact (Kd.R_reads' HO437.out).2.1); (case side3 => repeat (first | exact (Kd.R_reads' HO_11.out).2.2 | (with_reducible refine Kd.C_alloc ?_ _) | (with_reducible refine Kd.C_drewN ?_ _) | (with_reducible refine Kd.C_drew ?_))); (case side4 => exact (Kd.R_reads' HO_11.out).2.1); rintro e w' ⟨rfl, ⟨nd, rfl⟩⟩; refine ⟨_, rfl, ?_⟩) | (go_at_call 19; (with_reducible refine (span_Meet.calls _ _ t426 _ _ t423 t439 _ ?side1 ?side2 ?side3 ?side4 A29.out).mono ?_); (case side1 => repeat (first | exact (Kd.R_reads' HO_10.out).2.2 | (with_reducible refine Kd.C_alloc ?_ _) | (with_reducible refine Kd.C_drewN ?_ _) | (with_reducible refine Kd.C_drew ?_))); (case side2 => exact (Kd.R_reads' HO_10.out).2.1); (case side3 => repeat (first | exact (Kd.R_reads' HO_9.out).2.2 | (with_reducible refine Kd.C_alloc ?_ _) | (with_reducible refine Kd.C_drewN ?_ _) | (with_reducible refine Kd.C_drew ?_))); (case side4 => exact (Kd.R_reads' HO_9.out).2.1); rintro e w34 ⟨v440, rfl, ho0, hb⟩; have n0_ := Aside0.mk (Kd.R_elder' (rZ HO_8.out) (Kd.R_base ho0) hb); have n1_ := Aside0.mk (Kd.R_elder' (rZ HO_9.out) (Kd.R_base ho0) hb); have n2_ := Aside0.mk (Kd.R_elder' (rZ HO_10.out) (Kd.R_base ho0) hb); have n3_ := Aside0.mk (Kd.R_elder' (rZ HO_11.out) (Kd.R_base ho0) hb); have n4_ := Aside0.mk (Kd.R_elder' (rZ HO_12.out) (Kd.R_base ho0) hb); have n5_ := Aside0.mk (Kd.R_elder' (rZ HO437.out) (Kd.R_base ho0) hb); have n6_ := Aside0.mk (Kd.R_lower (Kd.R_new' (Kd.R_new' (Kd.R_new' (Kd.R_new' (Kd.R_new' (Kd.R_new' ho0 (Kd.R_lt (rZ HO_8.out))) (Kd.R_lt (rZ HO_9.out))) (Kd.R_lt (rZ HO_10.out))) (Kd.R_lt (rZ HO_11.out))) (Kd.R_lt (rZ HO_12.out))) (Kd.R_lt (rZ HO437.out))) (below_size (bZ HB.out))); have n7_ := Aside0.mk (below_step (bZ HB.out) hb); clear HO_8; clear HO_9; clear HO_10; clear HO_11; clear HO_12; clear HO437; clear HB; have HO_8 := n0_; have HO_9 := n1_; have HO_10 := n2_; have HO_11 := n3_; have HO_12 := n4_; have HO437 := n5_; have HO441 := n6_; have HB := n7_; clear n0_ n1_ n2_ n3_ n4_ n5_ n6_ n7_; (try clear hb); (try clear hb2); (try clear hk); (try clear hi); (try clear ho0); obtain ⟨Ao35, co35, eo35⟩ := Kd.R_slice HO441.out; subst eo35; obtain ⟨Ao36, co36, eo36⟩ := Kd.R_slice HO_12.out; subst eo36) | (go_at_call 14; (with_reducible refine (r11_Same.calls kj9 _ _ t439 _ _ t432 t442 _ ?side1 ?side2 ?side3 ?side4 A30.out).mono ?_); (case side1 => repeat (first | exact (Kd.R_reads' HO441.out).2.2 | (with_reducible refine Kd.C_alloc ?_ _) | (with_reducible refine Kd.C_drewN ?_ _) | (with_reducible refine Kd.C_drew ?_))); (case side2 => exact (Kd.R_reads' HO441.out).2.1); (case side3 => repeat (first | exact (Kd.R_reads' HO_12.out).2.2 | (with_reducible refine Kd.C_alloc ?_ _) | (with_reducible refine Kd.C_drewN ?_ _) | (with_reducible refine Kd.C_drew ?_))); (case side4 => exact (Kd.R_reads' HO_12.out).2.1); rintro e w' ⟨rfl, ⟨nd, rfl⟩⟩))
      go_meet
      case rel => exact ⟨_, (t442), (by first | rfl | (simp; done) | (simp [*]; done)), H', ⟨by have := HJ9.out; first | omega | exact Nat.le_refl _⟩, ⟨by (with_reducible repeat (first | apply Kd.R_alloc | apply Kd.R_drewN | apply Kd.R_drew)); exact Kd.R_mono HO_8.out (fun _ hk => ⟨hk.1.1.1, ⟨hk.1.1.2.1, ⟨hk.1.1.2.2.1, hk.1.1.2.2.2⟩⟩⟩)⟩, ⟨by (with_reducible repeat (first | apply Kd.R_alloc | apply Kd.R_drewN | apply Kd.R_drew)); exact Kd.R_mono HO_9.out (fun _ hk => ⟨hk.1.1.1, ⟨hk.1.1.2.1, ⟨hk.1.1.2.2.1, hk.1.1.2.2.2⟩⟩⟩)⟩, ⟨by (with_reducible repeat (first | apply Kd.R_alloc | apply Kd.R_drewN | apply Kd.R_drew)); exact Kd.R_mono HO_10.out (fun _ hk => ⟨hk.1.1.1, ⟨hk.1.1.2.1, ⟨hk.1.1.2.2.1, hk.1.1.2.2.2⟩⟩⟩)⟩, ⟨by (with_reducible repeat (first | apply Kd.R_alloc | apply Kd.R_drewN | apply Kd.R_drew)); exact Kd.R_mono HO_11.out (fun _ hk => ⟨hk.1.1.1, ⟨hk.1.1.2.1, ⟨hk.1.1.2.2.1, hk.1.1.2.2.2⟩⟩⟩)⟩, ⟨by (with_reducible repeat (first | apply Kd.R_alloc | apply Kd.R_drewN | apply Kd.R_drew)); exact Kd.R_mono HO_12.out (fun _ hk => ⟨hk.1.1.1, ⟨hk.1.1.2.1, ⟨hk.1.1.2.2.1, hk.1.1.2.2.2⟩⟩⟩)⟩, ⟨by repeat (first | (with_reducible first | exact HB.out | apply below_alloc | apply pw_below_drewN | apply below_drew1) | exact HB.out)⟩⟩
     ·replace c28 := Bool.eq_false_iff.mpr c28
      subst c28
      have H1 : (l11_SpanLaws.j1 kj9 t419 t420 t423 t426 t429 t432 false) = some r := by rw [if_neg (show ¬ (false = true) by decide)] at H; exact H
      clear H
      have H := H1
      clear H1
      have H' := Aside0.mk H
      clear H
      go_wp2_with (first | ((with_reducible refine gate_callee (f := 17) rfl ?_); refine goesL_ (some 40) rfl rfl Try.func17 (by kernel_rfl) rfl #[.slice Ao16 t423.length co16, .slice Ao15 t420.length co15] rfl (by (try simp only [List.map_toArray, List.map_cons, List.map_nil]); first | done | rfl | (simp only [List.length_drop, List.length_take]; rfl)) ?_; (with_reducible refine (span_Union.calls _ _ t423 _ _ t420 t435 _ ?side1 ?side2 ?side3 ?side4 A26.out).mono ?_); (case side1 => repeat (first | exact (Kd.R_reads' HO_9.out).2.2 | (with_reducible refine Kd.C_alloc ?_ _) | (with_reducible refine Kd.C_drewN ?_ _) | (with_reducible refine Kd.C_drew ?_))); (case side2 => exact (Kd.R_reads' HO_9.out).2.1); (case side3 => repeat (first | exact (Kd.R_reads' HO_8.out).2.2 | (with_reducible refine Kd.C_alloc ?_ _) | (with_reducible refine Kd.C_drewN ?_ _) | (with_reducible refine Kd.C_drew ?_))); (case side4 => exact (Kd.R_reads' HO_8.out).2.1); rintro e w37 ⟨v436, rfl, ho0, hb⟩; refine ⟨_, rfl, ?_⟩; have n0_ := Aside0.mk (Kd.R_elder' (rZ HO_8.out) (Kd.R_base ho0) hb); have n1_ := Aside0.mk (Kd.R_elder' (rZ HO_9.out) (Kd.R_base ho0) hb); have n2_ := Aside0.mk (Kd.R_elder' (rZ HO_10.out) (Kd.R_base ho0) hb); have n3_ := Aside0.mk (Kd.R_elder' (rZ HO_11.out) (Kd.R_base ho0) hb); have n4_ := Aside0.mk (Kd.R_elder' (rZ HO_12.out) (Kd.R_base ho0) hb); have n5_ := Aside0.mk (Kd.R_lower (Kd.R_new' (Kd.R_new' (Kd.R_new' (Kd.R_new' (Kd.R_new' ho0 (Kd.R_lt (rZ HO_8.out))) (Kd.R_lt (rZ HO_9.out))) (Kd.R_lt (rZ HO_10.out))) (Kd.R_lt (rZ HO_11.out))) (Kd.R_lt (rZ HO_12.out))) (below_size (bZ HB.out))); have n6_ := Aside0.mk (below_step (bZ HB.out) hb); clear HO_8; clear HO_9; clear HO_10; clear HO_11; clear HO_12; clear HB; have HO_8 := n0_; have HO_9 := n1_; have HO_10 := n2_; have HO_11 := n3_; have HO_12 := n4_; have HO437 := n5_; have HB := n6_; clear n0_ n1_ n2_ n3_ n4_ n5_ n6_; (try clear hb); (try clear hb2); (try clear hk); (try clear hi); (try clear ho0); obtain ⟨Ao38, co38, eo38⟩ := Kd.R_slice HO437.out; subst eo38; obtain ⟨Ao39, co39, eo39⟩ := Kd.R_slice HO_11.out; subst eo39) | ((with_reducible refine gate_callee (f := 14) rfl ?_); refine goesL_ (some 42) rfl rfl Try.func14 (by kernel_rfl) rfl #[.slice Ao38 t435.length co38, .slice Ao39 t429.length co39] rfl (by (try simp only [List.map_toArray, List.map_cons, List.map_nil]); first | done | rfl | (simp only [List.length_drop, List.length_take]; rfl)) ?_; (with_reducible refine (r11_Same.calls kj9 _ _ t435 _ _ t429 false _ ?side1 ?side2 ?side3 ?side4 A27.out).mono ?_); (case side1 => repeat (first | exact (Kd.R_reads' HO437.out).2.2 | (with_reducible refine Kd.C_alloc ?_ _) | (with_reducible refine Kd.C_drewN ?_ _) | (with_reducible refine Kd.C_drew ?_))); (case side2 => exact (Kd.R_reads' HO437.out).2.1); (case side3 => repeat (first | exact (Kd.R_reads' HO_11.out).2.2 | (with_reducible refine Kd.C_alloc ?_ _) | (with_reducible refine Kd.C_drewN ?_ _) | (with_reducible refine Kd.C_drew ?_))); (case side4 => exact (Kd.R_reads' HO_11.out).2.1); rintro e w' ⟨rfl, ⟨nd, rfl⟩⟩; refine ⟨_, rfl, ?_⟩))
      go_meet
      case rel => exact ⟨_, (false), (by first | rfl | (simp; done) | (simp [*]; done)), H', ⟨by have := HJ9.out; first | omega | exact Nat.le_refl _⟩, ⟨by (with_reducible repeat (first | apply Kd.R_alloc | apply Kd.R_drewN | apply Kd.R_drew)); exact Kd.R_mono HO_8.out (fun _ hk => ⟨hk.1.1, ⟨hk.1.2.1, ⟨hk.1.2.2.1, hk.1.2.2.2⟩⟩⟩)⟩, ⟨by (with_reducible repeat (first | apply Kd.R_alloc | apply Kd.R_drewN | apply Kd.R_drew)); exact Kd.R_mono HO_9.out (fun _ hk => ⟨hk.1.1, ⟨hk.1.2.1, ⟨hk.1.2.2.1, hk.1.2.2.2⟩⟩⟩)⟩, ⟨by (with_reducible repeat (first | apply Kd.R_alloc | apply Kd.R_drewN | apply Kd.R_drew)); exact Kd.R_mono HO_10.out (fun _ hk => ⟨hk.1.1, ⟨hk.1.2.1, ⟨hk.1.2.2.1, hk.1.2.2.2⟩⟩⟩)⟩, ⟨by (with_reducible repeat (first | apply Kd.R_alloc | apply Kd.R_drewN | apply Kd.R_drew)); exact Kd.R_mono HO_11.out (fun _ hk => ⟨hk.1.1, ⟨hk.1.2.1, ⟨hk.1.2.2.1, hk.1.2.2.2⟩⟩⟩)⟩, ⟨by (with_reducible repeat (first | apply Kd.R_alloc | apply Kd.R_drewN | apply Kd.R_drew)); exact Kd.R_mono HO_12.out (fun _ hk => ⟨hk.1.1, ⟨hk.1.2.1, ⟨hk.1.2.2.1, hk.1.2.2.2⟩⟩⟩)⟩, ⟨by repeat (first | (with_reducible first | exact HB.out | apply below_alloc | apply pw_below_drewN | apply below_drew1) | exact HB.out)⟩⟩
    case rest =>
     clear HC25
     try clear c1
     try clear c2
     try clear p2
     try clear c6
     try clear c10
     try clear c11
     try clear c14
     try clear c17
     try clear c19
     try clear c20
     try clear c20b0
     try clear c20b1
     try clear c24
     try clear c28
     try clear p2
     obtain ⟨kq, x13_24, rfl, HA, HJ24, HO_8, HO_9, HO_10, HO_11, HO_12, HB⟩ := hcut
     cases kq with
     | zero => exact absurd HA.out (by simp [l11_SpanLaws.j1])
     | succ kj24 =>
      have H := HA.out
      clear HA
      simp only [l11_SpanLaws.j1] at H
      have HC40 := Aside0.mk H
      clear H
      go_upto_region 7 with (fail)
      go_cut [14] (fun v14 wc => ∃ (kq : Nat) (x14_39 : Bool), v14 = .bool x14_39 ∧ Aside0 (l11_SpanLaws.j2 kq t419 t420 t423 t426 t429 t432 x13_24 x14_39 = some r) ∧ Aside0 (kq ≤ kj24) ∧ Aside0 (Kd.R k24 24 wc w.heap.size (fun k_ => some k_ ≠ ((.slice Ao16 t423.length co16) : Value).ownBlock ∧ some k_ ≠ ((.slice Ao18 t426.length co18) : Value).ownBlock ∧ some k_ ≠ (v430 : Value).ownBlock ∧ some k_ ≠ (v433 : Value).ownBlock) (.slice Ao15 t420.length co15) t420) ∧ Aside0 (Kd.R k24 24 wc w.heap.size (fun k_ => some k_ ≠ ((.slice Ao15 t420.length co15) : Value).ownBlock ∧ some k_ ≠ ((.slice Ao18 t426.length co18) : Value).ownBlock ∧ some k_ ≠ (v430 : Value).ownBlock ∧ some k_ ≠ (v433 : Value).ownBlock) (.slice Ao16 t423.length co16) t423) ∧ Aside0 (Kd.R k24 24 wc w.heap.size (fun k_ => some k_ ≠ ((.slice Ao15 t420.length co15) : Value).ownBlock ∧ some k_ ≠ ((.slice Ao16 t423.length co16) : Value).ownBlock ∧ some k_ ≠ (v430 : Value).ownBlock ∧ some k_ ≠ (v433 : Value).ownBlock) (.slice Ao18 t426.length co18) t426) ∧ Aside0 (Kd.R k24 24 wc w.heap.size (fun k_ => some k_ ≠ ((.slice Ao15 t420.length co15) : Value).ownBlock ∧ some k_ ≠ ((.slice Ao16 t423.length co16) : Value).ownBlock ∧ some k_ ≠ ((.slice Ao18 t426.length co18) : Value).ownBlock ∧ some k_ ≠ (v433 : Value).ownBlock) v430 t429) ∧ Aside0 (Kd.R k24 24 wc w.heap.size (fun k_ => some k_ ≠ ((.slice Ao15 t420.length co15) : Value).ownBlock ∧ some k_ ≠ ((.slice Ao16 t423.length co16) : Value).ownBlock ∧ some k_ ≠ ((.slice Ao18 t426.length co18) : Value).ownBlock ∧ some k_ ≠ (v430 : Value).ownBlock) v433 t432) ∧ Aside0 (Below w.heap.size w wc))
      case first =>
       have H := HC40.out
       clear HC40
       replace H := Option.bind_eq_some_iff.mp H
       obtain ⟨t443, A410, H⟩ := H
       replace H : ((span_Union.f t423 t426).bind fun t446 => ((span_Union.f t420 t446).bind fun t449 => ((r11_Same.f kj24 t443 t449).bind fun t452 => (if t452 = true then ((span_Meet.f t420 t423).bind fun t453 => ((span_Meet.f t453 t426).bind fun t456 => ((span_Meet.f t420 t432).bind fun t459 => ((r11_Same.f kj24 t456 t459).bind fun t462 => (l11_SpanLaws.j2 kj24 t419 t420 t423 t426 t429 t432 x13_24 t462))))) else (l11_SpanLaws.j2 kj24 t419 t420 t423 t426 t429 t432 x13_24 false))))) = some r := H
       have A41 := Aside0.mk A410
       clear A410
       replace H := Option.bind_eq_some_iff.mp H
       obtain ⟨t446, A420, H⟩ := H
       replace H : ((span_Union.f t420 t446).bind fun t449 => ((r11_Same.f kj24 t443 t449).bind fun t452 => (if t452 = true then ((span_Meet.f t420 t423).bind fun t453 => ((span_Meet.f t453 t426).bind fun t456 => ((span_Meet.f t420 t432).bind fun t459 => ((r11_Same.f kj24 t456 t459).bind fun t462 => (l11_SpanLaws.j2 kj24 t419 t420 t423 t426 t429 t432 x13_24 t462))))) else (l11_SpanLaws.j2 kj24 t419 t420 t423 t426 t429 t432 x13_24 false)))) = some r := H
       have A42 := Aside0.mk A420
       clear A420
       replace H := Option.bind_eq_some_iff.mp H
       obtain ⟨t449, A430, H⟩ := H
       replace H : ((r11_Same.f kj24 t443 t449).bind fun t452 => (if t452 = true then ((span_Meet.f t420 t423).bind fun t453 => ((span_Meet.f t453 t426).bind fun t456 => ((span_Meet.f t420 t432).bind fun t459 => ((r11_Same.f kj24 t456 t459).bind fun t462 => (l11_SpanLaws.j2 kj24 t419 t420 t423 t426 t429 t432 x13_24 t462))))) else (l11_SpanLaws.j2 kj24 t419 t420 t423 t426 t429 t432 x13_24 false))) = some r := H
       have A43 := Aside0.mk A430
       clear A430
       replace H := Option.bind_eq_some_iff.mp H
       obtain ⟨t452, A440, H⟩ := H
       replace H : (if t452 = true then ((span_Meet.f t420 t423).bind fun t453 => ((span_Meet.f t453 t426).bind fun t456 => ((span_Meet.f t420 t432).bind fun t459 => ((r11_Same.f kj24 t456 t459).bind fun t462 => (l11_SpanLaws.j2 kj24 t419 t420 t423 t426 t429 t432 x13_24 t462))))) else (l11_SpanLaws.j2 kj24 t419 t420 t423 t426 t429 t432 x13_24 false)) = some r := H
       have A44 := Aside0.mk A440
       clear A440
       by_cases c45 : t452 = true
       ·subst c45
        have H1 : ((span_Meet.f t420 t423).bind fun t453 => ((span_Meet.f t453 t426).bind fun t456 => ((span_Meet.f t420 t432).bind fun t459 => ((r11_Same.f kj24 t456 t459).bind fun t462 => (l11_SpanLaws.j2 kj24 t419 t420 t423 t426 t429 t432 x13_24 t462))))) = some r := by rw [if_pos rfl] at H; exact H
        clear H
        have H := H1
        clear H1
        replace H := Option.bind_eq_some_iff.mp H
        obtain ⟨t453, A460, H⟩ := H
        replace H : ((span_Meet.f t453 t426).bind fun t456 => ((span_Meet.f t420 t432).bind fun t459 => ((r11_Same.f kj24 t456 t459).bind fun t462 => (l11_SpanLaws.j2 kj24 t419 t420 t423 t426 t429 t432 x13_24 t462)))) = some r := H
        have A46 := Aside0.mk A460
        clear A460
        replace H := Option.bind_eq_some_iff.mp H
        obtain ⟨t456, A470, H⟩ := H
        replace H : ((span_Meet.f t420 t432).bind fun t459 => ((r11_Same.f kj24 t456 t459).bind fun t462 => (l11_SpanLaws.j2 kj24 t419 t420 t423 t426 t429 t432 x13_24 t462))) = some r := H
        have A47 := Aside0.mk A470
        clear A470
        replace H := Option.bind_eq_some_iff.mp H
        obtain ⟨t459, A480, H⟩ := H
        replace H : ((r11_Same.f kj24 t456 t459).bind fun t462 => (l11_SpanLaws.j2 kj24 t419 t420 t423 t426 t429 t432 x13_24 t462)) = some r := H
        have A48 := Aside0.mk A480
        clear A480
        replace H := Option.bind_eq_some_iff.mp H
        obtain ⟨t462, A490, H⟩ := H
        replace H : (l11_SpanLaws.j2 kj24 t419 t420 t423 t426 t429 t432 x13_24 t462) = some r := H
        have A49 := Aside0.mk A490
        clear A490
        have H' := Aside0.mk H
        clear H
        obtain ⟨Ao50, co50, eo50⟩ := Kd.R_slice HO_11.out
        subst eo50
        go_wp2_with (first | ((with_reducible refine gate_callee (f := 17) rfl ?_); refine goesL_ (some 52) rfl rfl Try.func17 (by kernel_rfl) rfl #[.slice Ao50 t429.length co50, .slice Ao18 t426.length co18] rfl (by (try simp only [List.map_toArray, List.map_cons, List.map_nil]); first | done | rfl | (simp only [List.length_drop, List.length_take]; rfl)) ?_; (with_reducible refine (span_Union.calls _ _ t429 _ _ t426 t443 _ ?side1 ?side2 ?side3 ?side4 A41.out).mono ?_); (case side1 => repeat (first | exact (Kd.R_reads' HO_11.out).2.2 | (with_reducible refine Kd.C_alloc ?_ _) | (with_reducible refine Kd.C_drewN ?_ _) | (with_reducible refine Kd.C_drew ?_))); (case side2 => exact (Kd.R_reads' HO_11.out).2.1); (case side3 => repeat (first | exact (Kd.R_reads' HO_10.out).2.2 | (with_reducible refine Kd.C_alloc ?_ _) | (with_reducible refine Kd.C_drewN ?_ _) | (with_reducible refine Kd.C_drew ?_))); (case side4 => exact (Kd.R_reads' HO_10.out).2.1); rintro e w51 ⟨v444, rfl, ho0, hb⟩; refine ⟨_, rfl, ?_⟩; have n0_ := Aside0.mk (Kd.R_elder' (rZ HO_8.out) (Kd.R_base ho0) hb); have n1_ := Aside0.mk (Kd.R_elder' (rZ HO_9.out) (Kd.R_base ho0) hb); have n2_ := Aside0.mk (Kd.R_elder' (rZ HO_10.out) (Kd.R_base ho0) hb); have n3_ := Aside0.mk (Kd.R_elder' (rZ HO_11.out) (Kd.R_base ho0) hb); have n4_ := Aside0.mk (Kd.R_elder' (rZ HO_12.out) (Kd.R_base ho0) hb); have n5_ := Aside0.mk (Kd.R_lower (Kd.R_new' (Kd.R_new' (Kd.R_new' (Kd.R_new' (Kd.R_new' ho0 (Kd.R_lt (rZ HO_8.out))) (Kd.R_lt (rZ HO_9.out))) (Kd.R_lt (rZ HO_10.out))) (Kd.R_lt (rZ HO_11.out))) (Kd.R_lt (rZ HO_12.out))) (below_size (bZ HB.out))); have n6_ := Aside0.mk (below_step (bZ HB.out) hb); clear HO_8; clear HO_9; clear HO_10; clear HO_11; clear HO_12; clear HB; have HO_8 := n0_; have HO_9 := n1_; have HO_10 := n2_; have HO_11 := n3_; have HO_12 := n4_; have HO445 := n5_; have HB := n6_; clear n0_ n1_ n2_ n3_ n4_ n5_ n6_; (try clear hb); (try clear hb2); (try clear hk); (try clear hi); (try clear ho0)) | ((with_reducible refine gate_callee (f := 17) rfl ?_); refine goesL_ (some 56) rfl rfl Try.func17 (by kernel_rfl) rfl #[.slice Ao16 t423.length co16, .slice Ao18 t426.length co18] rfl (by (try simp only [List.map_toArray, List.map_cons, List.map_nil]); first | done | rfl | (simp only [List.length_drop, List.length_take]; rfl)) ?_; (with_reducible refine (span_Union.calls _ _ t423 _ _ t426 t446 _ ?side1 ?side2 ?side3 ?side4 A42.out).mono ?_); (case side1 => repeat (first | exact (Kd.R_reads' HO_9.out).2.2 | (with_reducible refine Kd.C_alloc ?_ _) | (with_reducible refine Kd.C_drewN ?_ _) | (with_reducible refine Kd.C_drew ?_))); (case side2 => exact (Kd.R_reads' HO_9.out).2.1); (case side3 => repeat (first | exact (Kd.R_reads' HO_10.out).2.2 | (with_reducible refine Kd.C_alloc ?_ _) | (with_reducible refine Kd.C_drewN ?_ _) | (with_reducible refine Kd.C_drew ?_))); (case side4 => exact (Kd.R_reads' HO_10.out).2.1); rintro e w52 ⟨v447, rfl, ho0, hb⟩; refine ⟨_, rfl, ?_⟩; have n0_ := Aside0.mk (Kd.R_elder' (rZ HO_8.out) (Kd.R_base ho0) hb); have n1_ := Aside0.mk (Kd.R_elder' (rZ HO_9.out) (Kd.R_base ho0) hb); have n2_ := Aside0.mk (Kd.R_elder' (rZ HO_10.out) (Kd.R_base ho0) hb); have n3_ := Aside0.mk (Kd.R_elder' (rZ HO_11.out) (Kd.R_base ho0) hb); have n4_ := Aside0.mk (Kd.R_elder' (rZ HO_12.out) (Kd.R_base ho0) hb); have n5_ := Aside0.mk (Kd.R_elder' (rZ HO445.out) (Kd.R_base ho0) hb); have n6_ := Aside0.mk (Kd.R_lower (Kd.R_new' (Kd.R_new' (Kd.R_new' (Kd.R_new' (Kd.R_new' (Kd.R_new' ho0 (Kd.R_lt (rZ HO_8.out))) (Kd.R_lt (rZ HO_9.out))) (Kd.R_lt (rZ HO_10.out))) (Kd.R_lt (rZ HO_11.out))) (Kd.R_lt (rZ HO_12.out))) (Kd.R_lt (rZ HO445.out))) (below_size (bZ HB.out))); have n7_ := Aside0.mk (below_step (bZ HB.out) hb); clear HO_8; clear HO_9; clear HO_10; clear HO_11; clear HO_12; clear HO445; clear HB; have HO_8 := n0_; have HO_9 := n1_; have HO_10 := n2_; have HO_11 := n3_; have HO_12 := n4_; have HO445 := n5_; have HO448 := n6_; have HB := n7_; clear n0_ n1_ n2_ n3_ n4_ n5_ n6_ n7_; (try clear hb); (try clear hb2); (try clear hk); (try clear hi); (try clear ho0); obtain ⟨Ao53, co53, eo53⟩ := Kd.R_slice HO448.out; subst eo53) | ((with_reducible refine gate_callee (f := 17) rfl ?_); refine goesL_ (some 57) rfl rfl Try.func17 (by kernel_rfl) rfl #[.slice Ao15 t420.length co15, .slice Ao53 t446.length co53] rfl (by (try simp only [List.map_toArray, List.map_cons, List.map_nil]); first | done | rfl | (simp only [List.length_drop, List.length_take]; rfl)) ?_; (with_reducible refine (span_Union.calls _ _ t420 _ _ t446 t449 _ ?side1 ?side2 ?side3 ?side4 A43.out).mono ?_); (case side1 => repeat (first | exact (Kd.R_reads' HO_8.out).2.2 | (with_reducible refine Kd.C_alloc ?_ _) | (with_reducible refine Kd.C_drewN ?_ _) | (with_reducible refine Kd.C_drew ?_))); (case side2 => exact (Kd.R_reads' HO_8.out).2.1); (case side3 => repeat (first | exact (Kd.R_reads' HO448.out).2.2 | (with_reducible refine Kd.C_alloc ?_ _) | (with_reducible refine Kd.C_drewN ?_ _) | (with_reducible refine Kd.C_drew ?_))); (case side4 => exact (Kd.R_reads' HO448.out).2.1); rintro e w54 ⟨v450, rfl, ho0, hb⟩; refine ⟨_, rfl, ?_⟩; have n0_ := Aside0.mk (Kd.R_elder' (rZ HO_8.out) (Kd.R_base ho0) hb); have n1_ := Aside0.mk (Kd.R_elder' (rZ HO_9.out) (Kd.R_base ho0) hb); have n2_ := Aside0.mk (Kd.R_elder' (rZ HO_10.out) (Kd.R_base ho0) hb); have n3_ := Aside0.mk (Kd.R_elder' (rZ HO_11.out) (Kd.R_base ho0) hb); have n4_ := Aside0.mk (Kd.R_elder' (rZ HO_12.out) (Kd.R_base ho0) hb); have n5_ := Aside0.mk (Kd.R_elder' (rZ HO445.out) (Kd.R_base ho0) hb); have n6_ := Aside0.mk (Kd.R_elder' (rZ HO448.out) (Kd.R_base ho0) hb); have n7_ := Aside0.mk (Kd.R_lower (Kd.R_new' (Kd.R_new' (Kd.R_new' (Kd.R_new' (Kd.R_new' (Kd.R_new' (Kd.R_new' ho0 (Kd.R_lt (rZ HO_8.out))) (Kd.R_lt (rZ HO_9.out))) (Kd.R_lt (rZ HO_10.out))) (Kd.R_lt (rZ HO_11.out))) (Kd.R_lt (rZ HO_12.out))) (Kd.R_lt (rZ HO445.out))) (Kd.R_lt (rZ HO448.out))) (below_size (bZ HB.out))); have n8_ := Aside0.mk (below_step (bZ HB.out) hb); clear HO_8; clear HO_9; clear HO_10; clear HO_11; clear HO_12; clear HO445; clear HO448; clear HB; have HO_8 := n0_; have HO_9 := n1_; have HO_10 := n2_; have HO_11 := n3_; have HO_12 := n4_; have HO445 := n5_; have HO448 := n6_; have HO451 := n7_; have HB := n8_; clear n0_ n1_ n2_ n3_ n4_ n5_ n6_ n7_ n8_; (try clear hb); (try clear hb2); (try clear hk); (try clear hi); (try clear ho0); obtain ⟨Ao55, co55, eo55⟩ := Kd.R_slice HO445.out; subst eo55; obtain ⟨Ao56, co56, eo56⟩ := Kd.R_slice HO451.out; subst eo56) | ((with_reducible refine gate_callee (f := 14) rfl ?_); refine goesL_ (some 58) rfl rfl Try.func14 (by kernel_rfl) rfl #[.slice Ao55 t443.length co55, .slice Ao56 t449.length co56] rfl (by (try simp only [List.map_toArray, List.map_cons, List.map_nil]); first | done | rfl | (simp only [List.length_drop, List.length_take]; rfl)) ?_; (with_reducible refine (r11_Same.calls kj24 _ _ t443 _ _ t449 true _ ?side1 ?side2 ?side3 ?side4 A44.out).mono ?_); (case side1 => repeat (first | exact (Kd.R_reads' HO445.out).2.2 | (with_reducible refine Kd.C_alloc ?_ _) | (with_reducible refine Kd.C_drewN ?_ _) | (with_reducible refine Kd.C_drew ?_))); (case side2 => exact (Kd.R_reads' HO445.out).2.1); (case side3 => repeat (first | exact (Kd.R_reads' HO451.out).2.2 | (with_reducible refine Kd.C_alloc ?_ _) | (with_reducible refine Kd.C_drewN ?_ _) | (with_reducible refine Kd.C_drew ?_))); (case side4 => exact (Kd.R_reads' HO451.out).2.1); rintro e w' ⟨rfl, ⟨nd, rfl⟩⟩; refine ⟨_, rfl, ?_⟩) | (go_at_call 19; (with_reducible refine (span_Meet.calls _ _ t420 _ _ t423 t453 _ ?side1 ?side2 ?side3 ?side4 A46.out).mono ?_); (case side1 => repeat (first | exact (Kd.R_reads' HO_8.out).2.2 | (with_reducible refine Kd.C_alloc ?_ _) | (with_reducible refine Kd.C_drewN ?_ _) | (with_reducible refine Kd.C_drew ?_))); (case side2 => exact (Kd.R_reads' HO_8.out).2.1); (case side3 => repeat (first | exact (Kd.R_reads' HO_9.out).2.2 | (with_reducible refine Kd.C_alloc ?_ _) | (with_reducible refine Kd.C_drewN ?_ _) | (with_reducible refine Kd.C_drew ?_))); (case side4 => exact (Kd.R_reads' HO_9.out).2.1); rintro e w57 ⟨v454, rfl, ho0, hb⟩; have n0_ := Aside0.mk (Kd.R_elder' (rZ HO_8.out) (Kd.R_base ho0) hb); have n1_ := Aside0.mk (Kd.R_elder' (rZ HO_9.out) (Kd.R_base ho0) hb); have n2_ := Aside0.mk (Kd.R_elder' (rZ HO_10.out) (Kd.R_base ho0) hb); have n3_ := Aside0.mk (Kd.R_elder' (rZ HO_11.out) (Kd.R_base ho0) hb); have n4_ := Aside0.mk (Kd.R_elder' (rZ HO_12.out) (Kd.R_base ho0) hb); have n5_ := Aside0.mk (Kd.R_elder' (rZ HO445.out) (Kd.R_base ho0) hb); have n6_ := Aside0.mk (Kd.R_elder' (rZ HO448.out) (Kd.R_base ho0) hb); have n7_ := Aside0.mk (Kd.R_elder' (rZ HO451.out) (Kd.R_base ho0) hb); have n8_ := Aside0.mk (Kd.R_lower (Kd.R_new' (Kd.R_new' (Kd.R_new' (Kd.R_new' (Kd.R_new' (Kd.R_new' (Kd.R_new' (Kd.R_new' ho0 (Kd.R_lt (rZ HO_8.out))) (Kd.R_lt (rZ HO_9.out))) (Kd.R_lt (rZ HO_10.out))) (Kd.R_lt (rZ HO_11.out))) (Kd.R_lt (rZ HO_12.out))) (Kd.R_lt (rZ HO445.out))) (Kd.R_lt (rZ HO448.out))) (Kd.R_lt (rZ HO451.out))) (below_size (bZ HB.out))); have n9_ := Aside0.mk (below_step (bZ HB.out) hb); clear HO_8; clear HO_9; clear HO_10; clear HO_11; clear HO_12; clear HO445; clear HO448; clear HO451; clear HB; have HO_8 := n0_; have HO_9 := n1_; have HO_10 := n2_; have HO_11 := n3_; have HO_12 := n4_; have HO445 := n5_; have HO448 := n6_; have HO451 := n7_; have HO455 := n8_; have HB := n9_; clear n0_ n1_ n2_ n3_ n4_ n5_ n6_ n7_ n8_ n9_; (try clear hb); (try clear hb2); (try clear hk); (try clear hi); (try clear ho0); obtain ⟨Ao58, co58, eo58⟩ := Kd.R_slice HO455.out; subst eo58) | (go_at_call 19; (with_reducible refine (span_Meet.calls _ _ t453 _ _ t426 t456 _ ?side1 ?side2 ?side3 ?side4 A47.out).mono ?_); (case side1 => repeat (first | exact (Kd.R_reads' HO455.out).2.2 | (with_reducible refine Kd.C_alloc ?_ _) | (with_reducible refine Kd.C_drewN ?_ _) | (with_reducible refine Kd.C_drew ?_))); (case side2 => exact (Kd.R_reads' HO455.out).2.1); (case side3 => repeat (first | exact (Kd.R_reads' HO_10.out).2.2 | (with_reducible refine Kd.C_alloc ?_ _) | (with_reducible refine Kd.C_drewN ?_ _) | (with_reducible refine Kd.C_drew ?_))); (case side4 => exact (Kd.R_reads' HO_10.out).2.1); rintro e w59 ⟨v457, rfl, ho0, hb⟩; have n0_ := Aside0.mk (Kd.R_elder' (rZ HO_8.out) (Kd.R_base ho0) hb); have n1_ := Aside0.mk (Kd.R_elder' (rZ HO_9.out) (Kd.R_base ho0) hb); have n2_ := Aside0.mk (Kd.R_elder' (rZ HO_10.out) (Kd.R_base ho0) hb); have n3_ := Aside0.mk (Kd.R_elder' (rZ HO_11.out) (Kd.R_base ho0) hb); have n4_ := Aside0.mk (Kd.R_elder' (rZ HO_12.out) (Kd.R_base ho0) hb); have n5_ := Aside0.mk (Kd.R_elder' (rZ HO445.out) (Kd.R_base ho0) hb); have n6_ := Aside0.mk (Kd.R_elder' (rZ HO448.out) (Kd.R_base ho0) hb); have n7_ := Aside0.mk (Kd.R_elder' (rZ HO451.out) (Kd.R_base ho0) hb); have n8_ := Aside0.mk (Kd.R_elder' (rZ HO455.out) (Kd.R_base ho0) hb); have n9_ := Aside0.mk (Kd.R_lower (Kd.R_new' (Kd.R_new' (Kd.R_new' (Kd.R_new' (Kd.R_new' (Kd.R_new' (Kd.R_new' (Kd.R_new' (Kd.R_new' ho0 (Kd.R_lt (rZ HO_8.out))) (Kd.R_lt (rZ HO_9.out))) (Kd.R_lt (rZ HO_10.out))) (Kd.R_lt (rZ HO_11.out))) (Kd.R_lt (rZ HO_12.out))) (Kd.R_lt (rZ HO445.out))) (Kd.R_lt (rZ HO448.out))) (Kd.R_lt (rZ HO451.out))) (Kd.R_lt (rZ HO455.out))) (below_size (bZ HB.out))); have n10_ := Aside0.mk (below_step (bZ HB.out) hb); clear HO_8; clear HO_9; clear HO_10; clear HO_11; clear HO_12; clear HO445; clear HO448; clear HO451; clear HO455; clear HB; have HO_8 := n0_; have HO_9 := n1_; have HO_10 := n2_; have HO_11 := n3_; have HO_12 := n4_; have HO445 := n5_; have HO448 := n6_; have HO451 := n7_; have HO455 := n8_; have HO458 := n9_; have HB := n10_; clear n0_ n1_ n2_ n3_ n4_ n5_ n6_ n7_ n8_ n9_ n10_; (try clear hb); (try clear hb2); (try clear hk); (try clear hi); (try clear ho0); obtain ⟨Ao60, co60, eo60⟩ := Kd.R_slice HO_12.out; subst eo60) | (go_at_call 19; (with_reducible refine (span_Meet.calls _ _ t420 _ _ t432 t459 _ ?side1 ?side2 ?side3 ?side4 A48.out).mono ?_); (case side1 => repeat (first | exact (Kd.R_reads' HO_8.out).2.2 | (with_reducible refine Kd.C_alloc ?_ _) | (with_reducible refine Kd.C_drewN ?_ _) | (with_reducible refine Kd.C_drew ?_))); (case side2 => exact (Kd.R_reads' HO_8.out).2.1); (case side3 => repeat (first | exact (Kd.R_reads' HO_12.out).2.2 | (with_reducible refine Kd.C_alloc ?_ _) | (with_reducible refine Kd.C_drewN ?_ _) | (with_reducible refine Kd.C_drew ?_))); (case side4 => exact (Kd.R_reads' HO_12.out).2.1); rintro e w61 ⟨v460, rfl, ho0, hb⟩; have n0_ := Aside0.mk (Kd.R_elder' (rZ HO_8.out) (Kd.R_base ho0) hb); have n1_ := Aside0.mk (Kd.R_elder' (rZ HO_9.out) (Kd.R_base ho0) hb); have n2_ := Aside0.mk (Kd.R_elder' (rZ HO_10.out) (Kd.R_base ho0) hb); have n3_ := Aside0.mk (Kd.R_elder' (rZ HO_11.out) (Kd.R_base ho0) hb); have n4_ := Aside0.mk (Kd.R_elder' (rZ HO_12.out) (Kd.R_base ho0) hb); have n5_ := Aside0.mk (Kd.R_elder' (rZ HO445.out) (Kd.R_base ho0) hb); have n6_ := Aside0.mk (Kd.R_elder' (rZ HO448.out) (Kd.R_base ho0) hb); have n7_ := Aside0.mk (Kd.R_elder' (rZ HO451.out) (Kd.R_base ho0) hb); have n8_ := Aside0.mk (Kd.R_elder' (rZ HO455.out) (Kd.R_base ho0) hb); have n9_ := Aside0.mk (Kd.R_elder' (rZ HO458.out) (Kd.R_base ho0) hb); have n10_ := Aside0.mk (Kd.R_lower (Kd.R_new' (Kd.R_new' (Kd.R_new' (Kd.R_new' (Kd.R_new' (Kd.R_new' (Kd.R_new' (Kd.R_new' (Kd.R_new' (Kd.R_new' ho0 (Kd.R_lt (rZ HO_8.out))) (Kd.R_lt (rZ HO_9.out))) (Kd.R_lt (rZ HO_10.out))) (Kd.R_lt (rZ HO_11.out))) (Kd.R_lt (rZ HO_12.out))) (Kd.R_lt (rZ HO445.out))) (Kd.R_lt (rZ HO448.out))) (Kd.R_lt (rZ HO451.out))) (Kd.R_lt (rZ HO455.out))) (Kd.R_lt (rZ HO458.out))) (below_size (bZ HB.out))); have n11_ := Aside0.mk (below_step (bZ HB.out) hb); clear HO_8; clear HO_9; clear HO_10; clear HO_11; clear HO_12; clear HO445; clear HO448; clear HO451; clear HO455; clear HO458; clear HB; have HO_8 := n0_; have HO_9 := n1_; have HO_10 := n2_; have HO_11 := n3_; have HO_12 := n4_; have HO445 := n5_; have HO448 := n6_; have HO451 := n7_; have HO455 := n8_; have HO458 := n9_; have HO461 := n10_; have HB := n11_; clear n0_ n1_ n2_ n3_ n4_ n5_ n6_ n7_ n8_ n9_ n10_ n11_; (try clear hb); (try clear hb2); (try clear hk); (try clear hi); (try clear ho0); obtain ⟨Ao62, co62, eo62⟩ := Kd.R_slice HO458.out; subst eo62; obtain ⟨Ao63, co63, eo63⟩ := Kd.R_slice HO461.out; subst eo63) | (go_at_call 14; (with_reducible refine (r11_Same.calls kj24 _ _ t456 _ _ t459 t462 _ ?side1 ?side2 ?side3 ?side4 A49.out).mono ?_); (case side1 => repeat (first | exact (Kd.R_reads' HO458.out).2.2 | (with_reducible refine Kd.C_alloc ?_ _) | (with_reducible refine Kd.C_drewN ?_ _) | (with_reducible refine Kd.C_drew ?_))); (case side2 => exact (Kd.R_reads' HO458.out).2.1); (case side3 => repeat (first | exact (Kd.R_reads' HO461.out).2.2 | (with_reducible refine Kd.C_alloc ?_ _) | (with_reducible refine Kd.C_drewN ?_ _) | (with_reducible refine Kd.C_drew ?_))); (case side4 => exact (Kd.R_reads' HO461.out).2.1); rintro e w' ⟨rfl, ⟨nd, rfl⟩⟩))
        go_meet
        case rel => exact ⟨_, (t462), (by first | rfl | (simp; done) | (simp [*]; done)), H', ⟨by have := HJ9.out; have := HJ24.out; first | omega | exact Nat.le_refl _⟩, ⟨by (with_reducible repeat (first | apply Kd.R_alloc | apply Kd.R_drewN | apply Kd.R_drew)); exact Kd.R_mono HO_8.out (fun _ hk => ⟨hk.1.1.1.1.1.1.1, ⟨hk.1.1.1.1.1.1.2.1, ⟨hk.1.1.1.1.1.1.2.2.1, hk.1.1.1.1.1.1.2.2.2⟩⟩⟩)⟩, ⟨by (with_reducible repeat (first | apply Kd.R_alloc | apply Kd.R_drewN | apply Kd.R_drew)); exact Kd.R_mono HO_9.out (fun _ hk => ⟨hk.1.1.1.1.1.1.1, ⟨hk.1.1.1.1.1.1.2.1, ⟨hk.1.1.1.1.1.1.2.2.1, hk.1.1.1.1.1.1.2.2.2⟩⟩⟩)⟩, ⟨by (with_reducible repeat (first | apply Kd.R_alloc | apply Kd.R_drewN | apply Kd.R_drew)); exact Kd.R_mono HO_10.out (fun _ hk => ⟨hk.1.1.1.1.1.1.1, ⟨hk.1.1.1.1.1.1.2.1, ⟨hk.1.1.1.1.1.1.2.2.1, hk.1.1.1.1.1.1.2.2.2⟩⟩⟩)⟩, ⟨by (with_reducible repeat (first | apply Kd.R_alloc | apply Kd.R_drewN | apply Kd.R_drew)); exact Kd.R_mono HO_11.out (fun _ hk => ⟨hk.1.1.1.1.1.1.1, ⟨hk.1.1.1.1.1.1.2.1, ⟨hk.1.1.1.1.1.1.2.2.1, hk.1.1.1.1.1.1.2.2.2⟩⟩⟩)⟩, ⟨by (with_reducible repeat (first | apply Kd.R_alloc | apply Kd.R_drewN | apply Kd.R_drew)); exact Kd.R_mono HO_12.out (fun _ hk => ⟨hk.1.1.1.1.1.1.1, ⟨hk.1.1.1.1.1.1.2.1, ⟨hk.1.1.1.1.1.1.2.2.1, hk.1.1.1.1.1.1.2.2.2⟩⟩⟩)⟩, ⟨by repeat (first | (with_reducible first | exact HB.out | apply below_alloc | apply pw_below_drewN | apply below_drew1) | exact HB.out)⟩⟩
       ·replace c45 := Bool.eq_false_iff.mpr c45
        subst c45
        have H1 : (l11_SpanLaws.j2 kj24 t419 t420 t423 t426 t429 t432 x13_24 false) = some r := by rw [if_neg (show ¬ (false = true) by decide)] at H; exact H
        clear H
        have H := H1
        clear H1
        have H' := Aside0.mk H
        clear H
        obtain ⟨Ao64, co64, eo64⟩ := Kd.R_slice HO_11.out
        subst eo64
        go_wp2_with (first | ((with_reducible refine gate_callee (f := 17) rfl ?_); refine goesL_ (some 52) rfl rfl Try.func17 (by kernel_rfl) rfl #[.slice Ao64 t429.length co64, .slice Ao18 t426.length co18] rfl (by (try simp only [List.map_toArray, List.map_cons, List.map_nil]); first | done | rfl | (simp only [List.length_drop, List.length_take]; rfl)) ?_; (with_reducible refine (span_Union.calls _ _ t429 _ _ t426 t443 _ ?side1 ?side2 ?side3 ?side4 A41.out).mono ?_); (case side1 => repeat (first | exact (Kd.R_reads' HO_11.out).2.2 | (with_reducible refine Kd.C_alloc ?_ _) | (with_reducible refine Kd.C_drewN ?_ _) | (with_reducible refine Kd.C_drew ?_))); (case side2 => exact (Kd.R_reads' HO_11.out).2.1); (case side3 => repeat (first | exact (Kd.R_reads' HO_10.out).2.2 | (with_reducible refine Kd.C_alloc ?_ _) | (with_reducible refine Kd.C_drewN ?_ _) | (with_reducible refine Kd.C_drew ?_))); (case side4 => exact (Kd.R_reads' HO_10.out).2.1); rintro e w65 ⟨v444, rfl, ho0, hb⟩; refine ⟨_, rfl, ?_⟩; have n0_ := Aside0.mk (Kd.R_elder' (rZ HO_8.out) (Kd.R_base ho0) hb); have n1_ := Aside0.mk (Kd.R_elder' (rZ HO_9.out) (Kd.R_base ho0) hb); have n2_ := Aside0.mk (Kd.R_elder' (rZ HO_10.out) (Kd.R_base ho0) hb); have n3_ := Aside0.mk (Kd.R_elder' (rZ HO_11.out) (Kd.R_base ho0) hb); have n4_ := Aside0.mk (Kd.R_elder' (rZ HO_12.out) (Kd.R_base ho0) hb); have n5_ := Aside0.mk (Kd.R_lower (Kd.R_new' (Kd.R_new' (Kd.R_new' (Kd.R_new' (Kd.R_new' ho0 (Kd.R_lt (rZ HO_8.out))) (Kd.R_lt (rZ HO_9.out))) (Kd.R_lt (rZ HO_10.out))) (Kd.R_lt (rZ HO_11.out))) (Kd.R_lt (rZ HO_12.out))) (below_size (bZ HB.out))); have n6_ := Aside0.mk (below_step (bZ HB.out) hb); clear HO_8; clear HO_9; clear HO_10; clear HO_11; clear HO_12; clear HB; have HO_8 := n0_; have HO_9 := n1_; have HO_10 := n2_; have HO_11 := n3_; have HO_12 := n4_; have HO445 := n5_; have HB := n6_; clear n0_ n1_ n2_ n3_ n4_ n5_ n6_; (try clear hb); (try clear hb2); (try clear hk); (try clear hi); (try clear ho0)) | ((with_reducible refine gate_callee (f := 17) rfl ?_); refine goesL_ (some 56) rfl rfl Try.func17 (by kernel_rfl) rfl #[.slice Ao16 t423.length co16, .slice Ao18 t426.length co18] rfl (by (try simp only [List.map_toArray, List.map_cons, List.map_nil]); first | done | rfl | (simp only [List.length_drop, List.length_take]; rfl)) ?_; (with_reducible refine (span_Union.calls _ _ t423 _ _ t426 t446 _ ?side1 ?side2 ?side3 ?side4 A42.out).mono ?_); (case side1 => repeat (first | exact (Kd.R_reads' HO_9.out).2.2 | (with_reducible refine Kd.C_alloc ?_ _) | (with_reducible refine Kd.C_drewN ?_ _) | (with_reducible refine Kd.C_drew ?_))); (case side2 => exact (Kd.R_reads' HO_9.out).2.1); (case side3 => repeat (first | exact (Kd.R_reads' HO_10.out).2.2 | (with_reducible refine Kd.C_alloc ?_ _) | (with_reducible refine Kd.C_drewN ?_ _) | (with_reducible refine Kd.C_drew ?_))); (case side4 => exact (Kd.R_reads' HO_10.out).2.1); rintro e w66 ⟨v447, rfl, ho0, hb⟩; refine ⟨_, rfl, ?_⟩; have n0_ := Aside0.mk (Kd.R_elder' (rZ HO_8.out) (Kd.R_base ho0) hb); have n1_ := Aside0.mk (Kd.R_elder' (rZ HO_9.out) (Kd.R_base ho0) hb); have n2_ := Aside0.mk (Kd.R_elder' (rZ HO_10.out) (Kd.R_base ho0) hb); have n3_ := Aside0.mk (Kd.R_elder' (rZ HO_11.out) (Kd.R_base ho0) hb); have n4_ := Aside0.mk (Kd.R_elder' (rZ HO_12.out) (Kd.R_base ho0) hb); have n5_ := Aside0.mk (Kd.R_elder' (rZ HO445.out) (Kd.R_base ho0) hb); have n6_ := Aside0.mk (Kd.R_lower (Kd.R_new' (Kd.R_new' (Kd.R_new' (Kd.R_new' (Kd.R_new' (Kd.R_new' ho0 (Kd.R_lt (rZ HO_8.out))) (Kd.R_lt (rZ HO_9.out))) (Kd.R_lt (rZ HO_10.out))) (Kd.R_lt (rZ HO_11.out))) (Kd.R_lt (rZ HO_12.out))) (Kd.R_lt (rZ HO445.out))) (below_size (bZ HB.out))); have n7_ := Aside0.mk (below_step (bZ HB.out) hb); clear HO_8; clear HO_9; clear HO_10; clear HO_11; clear HO_12; clear HO445; clear HB; have HO_8 := n0_; have HO_9 := n1_; have HO_10 := n2_; have HO_11 := n3_; have HO_12 := n4_; have HO445 := n5_; have HO448 := n6_; have HB := n7_; clear n0_ n1_ n2_ n3_ n4_ n5_ n6_ n7_; (try clear hb); (try clear hb2); (try clear hk); (try clear hi); (try clear ho0); obtain ⟨Ao67, co67, eo67⟩ := Kd.R_slice HO448.out; subst eo67) | ((with_reducible refine gate_callee (f := 17) rfl ?_); refine goesL_ (some 57) rfl rfl Try.func17 (by kernel_rfl) rfl #[.slice Ao15 t420.length co15, .slice Ao67 t446.length co67] rfl (by (try simp only [List.map_toArray, List.map_cons, List.map_nil]); first | done | rfl | (simp only [List.length_drop, List.length_take]; rfl)) ?_; (with_reducible refine (span_Union.calls _ _ t420 _ _ t446 t449 _ ?side1 ?side2 ?side3 ?side4 A43.out).mono ?_); (case side1 => repeat (first | exact (Kd.R_reads' HO_8.out).2.2 | (with_reducible refine Kd.C_alloc ?_ _) | (with_reducible refine Kd.C_drewN ?_ _) | (with_reducible refine Kd.C_drew ?_))); (case side2 => exact (Kd.R_reads' HO_8.out).2.1); (case side3 => repeat (first | exact (Kd.R_reads' HO448.out).2.2 | (with_reducible refine Kd.C_alloc ?_ _) | (with_reducible refine Kd.C_drewN ?_ _) | (with_reducible refine Kd.C_drew ?_))); (case side4 => exact (Kd.R_reads' HO448.out).2.1); rintro e w68 ⟨v450, rfl, ho0, hb⟩; refine ⟨_, rfl, ?_⟩; have n0_ := Aside0.mk (Kd.R_elder' (rZ HO_8.out) (Kd.R_base ho0) hb); have n1_ := Aside0.mk (Kd.R_elder' (rZ HO_9.out) (Kd.R_base ho0) hb); have n2_ := Aside0.mk (Kd.R_elder' (rZ HO_10.out) (Kd.R_base ho0) hb); have n3_ := Aside0.mk (Kd.R_elder' (rZ HO_11.out) (Kd.R_base ho0) hb); have n4_ := Aside0.mk (Kd.R_elder' (rZ HO_12.out) (Kd.R_base ho0) hb); have n5_ := Aside0.mk (Kd.R_elder' (rZ HO445.out) (Kd.R_base ho0) hb); have n6_ := Aside0.mk (Kd.R_elder' (rZ HO448.out) (Kd.R_base ho0) hb); have n7_ := Aside0.mk (Kd.R_lower (Kd.R_new' (Kd.R_new' (Kd.R_new' (Kd.R_new' (Kd.R_new' (Kd.R_new' (Kd.R_new' ho0 (Kd.R_lt (rZ HO_8.out))) (Kd.R_lt (rZ HO_9.out))) (Kd.R_lt (rZ HO_10.out))) (Kd.R_lt (rZ HO_11.out))) (Kd.R_lt (rZ HO_12.out))) (Kd.R_lt (rZ HO445.out))) (Kd.R_lt (rZ HO448.out))) (below_size (bZ HB.out))); have n8_ := Aside0.mk (below_step (bZ HB.out) hb); clear HO_8; clear HO_9; clear HO_10; clear HO_11; clear HO_12; clear HO445; clear HO448; clear HB; have HO_8 := n0_; have HO_9 := n1_; have HO_10 := n2_; have HO_11 := n3_; have HO_12 := n4_; have HO445 := n5_; have HO448 := n6_; have HO451 := n7_; have HB := n8_; clear n0_ n1_ n2_ n3_ n4_ n5_ n6_ n7_ n8_; (try clear hb); (try clear hb2); (try clear hk); (try clear hi); (try clear ho0); obtain ⟨Ao69, co69, eo69⟩ := Kd.R_slice HO445.out; subst eo69; obtain ⟨Ao70, co70, eo70⟩ := Kd.R_slice HO451.out; subst eo70) | ((with_reducible refine gate_callee (f := 14) rfl ?_); refine goesL_ (some 58) rfl rfl Try.func14 (by kernel_rfl) rfl #[.slice Ao69 t443.length co69, .slice Ao70 t449.length co70] rfl (by (try simp only [List.map_toArray, List.map_cons, List.map_nil]); first | done | rfl | (simp only [List.length_drop, List.length_take]; rfl)) ?_; (with_reducible refine (r11_Same.calls kj24 _ _ t443 _ _ t449 false _ ?side1 ?side2 ?side3 ?side4 A44.out).mono ?_); (case side1 => repeat (first | exact (Kd.R_reads' HO445.out).2.2 | (with_reducible refine Kd.C_alloc ?_ _) | (with_reducible refine Kd.C_drewN ?_ _) | (with_reducible refine Kd.C_drew ?_))); (case side2 => exact (Kd.R_reads' HO445.out).2.1); (case side3 => repeat (first | exact (Kd.R_reads' HO451.out).2.2 | (with_reducible refine Kd.C_alloc ?_ _) | (with_reducible refine Kd.C_drewN ?_ _) | (with_reducible refine Kd.C_drew ?_))); (case side4 => exact (Kd.R_reads' HO451.out).2.1); rintro e w' ⟨rfl, ⟨nd, rfl⟩⟩; refine ⟨_, rfl, ?_⟩))
        go_meet
        case rel => exact ⟨_, (false), (by first | rfl | (simp; done) | (simp [*]; done)), H', ⟨by have := HJ9.out; have := HJ24.out; first | omega | exact Nat.le_refl _⟩, ⟨by (with_reducible repeat (first | apply Kd.R_alloc | apply Kd.R_drewN | apply Kd.R_drew)); exact Kd.R_mono HO_8.out (fun _ hk => ⟨hk.1.1.1.1, ⟨hk.1.1.1.2.1, ⟨hk.1.1.1.2.2.1, hk.1.1.1.2.2.2⟩⟩⟩)⟩, ⟨by (with_reducible repeat (first | apply Kd.R_alloc | apply Kd.R_drewN | apply Kd.R_drew)); exact Kd.R_mono HO_9.out (fun _ hk => ⟨hk.1.1.1.1, ⟨hk.1.1.1.2.1, ⟨hk.1.1.1.2.2.1, hk.1.1.1.2.2.2⟩⟩⟩)⟩, ⟨by (with_reducible repeat (first | apply Kd.R_alloc | apply Kd.R_drewN | apply Kd.R_drew)); exact Kd.R_mono HO_10.out (fun _ hk => ⟨hk.1.1.1.1, ⟨hk.1.1.1.2.1, ⟨hk.1.1.1.2.2.1, hk.1.1.1.2.2.2⟩⟩⟩)⟩, ⟨by (with_reducible repeat (first | apply Kd.R_alloc | apply Kd.R_drewN | apply Kd.R_drew)); exact Kd.R_mono HO_11.out (fun _ hk => ⟨hk.1.1.1.1, ⟨hk.1.1.1.2.1, ⟨hk.1.1.1.2.2.1, hk.1.1.1.2.2.2⟩⟩⟩)⟩, ⟨by (with_reducible repeat (first | apply Kd.R_alloc | apply Kd.R_drewN | apply Kd.R_drew)); exact Kd.R_mono HO_12.out (fun _ hk => ⟨hk.1.1.1.1, ⟨hk.1.1.1.2.1, ⟨hk.1.1.1.2.2.1, hk.1.1.1.2.2.2⟩⟩⟩)⟩, ⟨by repeat (first | (with_reducible first | exact HB.out | apply below_alloc | apply pw_below_drewN | apply below_drew1) | exact HB.out)⟩⟩
      case rest =>
       clear HC40
       try clear c1
       try clear c2
       try clear p2
       try clear c4
       try clear c6
       try clear c10
       try clear c11
       try clear c14
       try clear c17
       try clear c19
       try clear c20
       try clear c20b0
       try clear c20b1
       try clear c24
       try clear c28
       try clear c45
       try clear p2
       obtain ⟨kq, x14_39, rfl, HA, HJ39, HO_8, HO_9, HO_10, HO_11, HO_12, HB⟩ := hcut
       cases kq with
       | zero => exact absurd HA.out (by simp [l11_SpanLaws.j2])
       | succ kj39 =>
        have H := HA.out
        clear HA
        simp only [l11_SpanLaws.j2] at H
        have HC71 := Aside0.mk H
        clear H
        go_upto_region 8 with (fail)
        go_cut [15] (fun v15 wc => ∃ (kq : Nat) (x15_70 : Bool), v15 = .bool x15_70 ∧ Aside0 (l11_SpanLaws.j3 kq t419 t420 t423 x13_24 x14_39 x15_70 = some r) ∧ Aside0 (kq ≤ kj39) ∧ Aside0 (Kd.R k24 24 wc w.heap.size (fun k_ => some k_ ≠ ((.slice Ao16 t423.length co16) : Value).ownBlock) (.slice Ao15 t420.length co15) t420) ∧ Aside0 (Kd.R k24 24 wc w.heap.size (fun k_ => some k_ ≠ ((.slice Ao15 t420.length co15) : Value).ownBlock) (.slice Ao16 t423.length co16) t423) ∧ Aside0 (Below w.heap.size w wc))
        case first =>
         have H := HC71.out
         clear HC71
         replace H := Option.bind_eq_some_iff.mp H
         obtain ⟨t463, A720, H⟩ := H
         replace H : ((span_Meet.f t426 t420).bind fun t466 => ((span_Meet.f t426 t423).bind fun t469 => ((span_Union.f t466 t469).bind fun t472 => ((r11_Same.f kj39 t463 t472).bind fun t475 => (if t475 = true then ((span_Minus.f t420 t432).bind fun t476 => ((span_Minus.f t420 t423).bind fun t479 => ((span_Minus.f t420 t426).bind fun t482 => ((span_Union.f t479 t482).bind fun t485 => ((r11_Same.f kj39 t476 t485).bind fun t488 => (l11_SpanLaws.j3 kj39 t419 t420 t423 x13_24 x14_39 t488)))))) else (l11_SpanLaws.j3 kj39 t419 t420 t423 x13_24 x14_39 false)))))) = some r := H
         have A72 := Aside0.mk A720
         clear A720
         replace H := Option.bind_eq_some_iff.mp H
         obtain ⟨t466, A730, H⟩ := H
         replace H : ((span_Meet.f t426 t423).bind fun t469 => ((span_Union.f t466 t469).bind fun t472 => ((r11_Same.f kj39 t463 t472).bind fun t475 => (if t475 = true then ((span_Minus.f t420 t432).bind fun t476 => ((span_Minus.f t420 t423).bind fun t479 => ((span_Minus.f t420 t426).bind fun t482 => ((span_Union.f t479 t482).bind fun t485 => ((r11_Same.f kj39 t476 t485).bind fun t488 => (l11_SpanLaws.j3 kj39 t419 t420 t423 x13_24 x14_39 t488)))))) else (l11_SpanLaws.j3 kj39 t419 t420 t423 x13_24 x14_39 false))))) = some r := H
         have A73 := Aside0.mk A730
         clear A730
         replace H := Option.bind_eq_some_iff.mp H
         obtain ⟨t469, A740, H⟩ := H
         replace H : ((span_Union.f t466 t469).bind fun t472 => ((r11_Same.f kj39 t463 t472).bind fun t475 => (if t475 = true then ((span_Minus.f t420 t432).bind fun t476 => ((span_Minus.f t420 t423).bind fun t479 => ((span_Minus.f t420 t426).bind fun t482 => ((span_Union.f t479 t482).bind fun t485 => ((r11_Same.f kj39 t476 t485).bind fun t488 => (l11_SpanLaws.j3 kj39 t419 t420 t423 x13_24 x14_39 t488)))))) else (l11_SpanLaws.j3 kj39 t419 t420 t423 x13_24 x14_39 false)))) = some r := H
         have A74 := Aside0.mk A740
         clear A740
         replace H := Option.bind_eq_some_iff.mp H
         obtain ⟨t472, A750, H⟩ := H
         replace H : ((r11_Same.f kj39 t463 t472).bind fun t475 => (if t475 = true then ((span_Minus.f t420 t432).bind fun t476 => ((span_Minus.f t420 t423).bind fun t479 => ((span_Minus.f t420 t426).bind fun t482 => ((span_Union.f t479 t482).bind fun t485 => ((r11_Same.f kj39 t476 t485).bind fun t488 => (l11_SpanLaws.j3 kj39 t419 t420 t423 x13_24 x14_39 t488)))))) else (l11_SpanLaws.j3 kj39 t419 t420 t423 x13_24 x14_39 false))) = some r := H
         have A75 := Aside0.mk A750
         clear A750
         replace H := Option.bind_eq_some_iff.mp H
         obtain ⟨t475, A760, H⟩ := H
         replace H : (if t475 = true then ((span_Minus.f t420 t432).bind fun t476 => ((span_Minus.f t420 t423).bind fun t479 => ((span_Minus.f t420 t426).bind fun t482 => ((span_Union.f t479 t482).bind fun t485 => ((r11_Same.f kj39 t476 t485).bind fun t488 => (l11_SpanLaws.j3 kj39 t419 t420 t423 x13_24 x14_39 t488)))))) else (l11_SpanLaws.j3 kj39 t419 t420 t423 x13_24 x14_39 false)) = some r := H
         have A76 := Aside0.mk A760
         clear A760
         by_cases c77 : t475 = true
         ·subst c77
          have H1 : ((span_Minus.f t420 t432).bind fun t476 => ((span_Minus.f t420 t423).bind fun t479 => ((span_Minus.f t420 t426).bind fun t482 => ((span_Union.f t479 t482).bind fun t485 => ((r11_Same.f kj39 t476 t485).bind fun t488 => (l11_SpanLaws.j3 kj39 t419 t420 t423 x13_24 x14_39 t488)))))) = some r := by rw [if_pos rfl] at H; exact H
          clear H
          have H := H1
          clear H1
          replace H := Option.bind_eq_some_iff.mp H
          obtain ⟨t476, A780, H⟩ := H
          replace H : ((span_Minus.f t420 t423).bind fun t479 => ((span_Minus.f t420 t426).bind fun t482 => ((span_Union.f t479 t482).bind fun t485 => ((r11_Same.f kj39 t476 t485).bind fun t488 => (l11_SpanLaws.j3 kj39 t419 t420 t423 x13_24 x14_39 t488))))) = some r := H
          have A78 := Aside0.mk A780
          clear A780
          replace H := Option.bind_eq_some_iff.mp H
          obtain ⟨t479, A790, H⟩ := H
          replace H : ((span_Minus.f t420 t426).bind fun t482 => ((span_Union.f t479 t482).bind fun t485 => ((r11_Same.f kj39 t476 t485).bind fun t488 => (l11_SpanLaws.j3 kj39 t419 t420 t423 x13_24 x14_39 t488)))) = some r := H
          have A79 := Aside0.mk A790
          clear A790
          replace H := Option.bind_eq_some_iff.mp H
          obtain ⟨t482, A800, H⟩ := H
          replace H : ((span_Union.f t479 t482).bind fun t485 => ((r11_Same.f kj39 t476 t485).bind fun t488 => (l11_SpanLaws.j3 kj39 t419 t420 t423 x13_24 x14_39 t488))) = some r := H
          have A80 := Aside0.mk A800
          clear A800
          replace H := Option.bind_eq_some_iff.mp H
          obtain ⟨t485, A810, H⟩ := H
          replace H : ((r11_Same.f kj39 t476 t485).bind fun t488 => (l11_SpanLaws.j3 kj39 t419 t420 t423 x13_24 x14_39 t488)) = some r := H
          have A81 := Aside0.mk A810
          clear A810
          replace H := Option.bind_eq_some_iff.mp H
          obtain ⟨t488, A820, H⟩ := H
          replace H : (l11_SpanLaws.j3 kj39 t419 t420 t423 x13_24 x14_39 t488) = some r := H
          have A82 := Aside0.mk A820
          clear A820
          have H' := Aside0.mk H
          clear H
          obtain ⟨Ao83, co83, eo83⟩ := Kd.R_slice HO_11.out
          subst eo83
          go_wp2_with (first | ((with_reducible refine gate_callee (f := 19) rfl ?_); refine goesL_ (some 72) rfl rfl Try.func19 (by kernel_rfl) rfl #[.slice Ao18 t426.length co18, .slice Ao83 t429.length co83] rfl (by (try simp only [List.map_toArray, List.map_cons, List.map_nil]); first | done | rfl | (simp only [List.length_drop, List.length_take]; rfl)) ?_; (with_reducible refine (span_Meet.calls _ _ t426 _ _ t429 t463 _ ?side1 ?side2 ?side3 ?side4 A72.out).mono ?_); (case side1 => repeat (first | exact (Kd.R_reads' HO_10.out).2.2 | (with_reducible refine Kd.C_alloc ?_ _) | (with_reducible refine Kd.C_drewN ?_ _) | (with_reducible refine Kd.C_drew ?_))); (case side2 => exact (Kd.R_reads' HO_10.out).2.1); (case side3 => repeat (first | exact (Kd.R_reads' HO_11.out).2.2 | (with_reducible refine Kd.C_alloc ?_ _) | (with_reducible refine Kd.C_drewN ?_ _) | (with_reducible refine Kd.C_drew ?_))); (case side4 => exact (Kd.R_reads' HO_11.out).2.1); rintro e w84 ⟨v464, rfl, ho0, hb⟩; refine ⟨_, rfl, ?_⟩; have n0_ := Aside0.mk (Kd.R_elder' (rZ HO_8.out) (Kd.R_base ho0) hb); have n1_ := Aside0.mk (Kd.R_elder' (rZ HO_9.out) (Kd.R_base ho0) hb); have n2_ := Aside0.mk (Kd.R_elder' (rZ HO_10.out) (Kd.R_base ho0) hb); have n3_ := Aside0.mk (Kd.R_elder' (rZ HO_11.out) (Kd.R_base ho0) hb); have n4_ := Aside0.mk (Kd.R_elder' (rZ HO_12.out) (Kd.R_base ho0) hb); have n5_ := Aside0.mk (Kd.R_lower (Kd.R_new' (Kd.R_new' (Kd.R_new' (Kd.R_new' (Kd.R_new' ho0 (Kd.R_lt (rZ HO_8.out))) (Kd.R_lt (rZ HO_9.out))) (Kd.R_lt (rZ HO_10.out))) (Kd.R_lt (rZ HO_11.out))) (Kd.R_lt (rZ HO_12.out))) (below_size (bZ HB.out))); have n6_ := Aside0.mk (below_step (bZ HB.out) hb); clear HO_8; clear HO_9; clear HO_10; clear HO_11; clear HO_12; clear HB; have HO_8 := n0_; have HO_9 := n1_; have HO_10 := n2_; have HO_11 := n3_; have HO_12 := n4_; have HO465 := n5_; have HB := n6_; clear n0_ n1_ n2_ n3_ n4_ n5_ n6_; (try clear hb); (try clear hb2); (try clear hk); (try clear hi); (try clear ho0)) | ((with_reducible refine gate_callee (f := 19) rfl ?_); refine goesL_ (some 75) rfl rfl Try.func19 (by kernel_rfl) rfl #[.slice Ao18 t426.length co18, .slice Ao15 t420.length co15] rfl (by (try simp only [List.map_toArray, List.map_cons, List.map_nil]); first | done | rfl | (simp only [List.length_drop, List.length_take]; rfl)) ?_; (with_reducible refine (span_Meet.calls _ _ t426 _ _ t420 t466 _ ?side1 ?side2 ?side3 ?side4 A73.out).mono ?_); (case side1 => repeat (first | exact (Kd.R_reads' HO_10.out).2.2 | (with_reducible refine Kd.C_alloc ?_ _) | (with_reducible refine Kd.C_drewN ?_ _) | (with_reducible refine Kd.C_drew ?_))); (case side2 => exact (Kd.R_reads' HO_10.out).2.1); (case side3 => repeat (first | exact (Kd.R_reads' HO_8.out).2.2 | (with_reducible refine Kd.C_alloc ?_ _) | (with_reducible refine Kd.C_drewN ?_ _) | (with_reducible refine Kd.C_drew ?_))); (case side4 => exact (Kd.R_reads' HO_8.out).2.1); rintro e w85 ⟨v467, rfl, ho0, hb⟩; refine ⟨_, rfl, ?_⟩; have n0_ := Aside0.mk (Kd.R_elder' (rZ HO_8.out) (Kd.R_base ho0) hb); have n1_ := Aside0.mk (Kd.R_elder' (rZ HO_9.out) (Kd.R_base ho0) hb); have n2_ := Aside0.mk (Kd.R_elder' (rZ HO_10.out) (Kd.R_base ho0) hb); have n3_ := Aside0.mk (Kd.R_elder' (rZ HO_11.out) (Kd.R_base ho0) hb); have n4_ := Aside0.mk (Kd.R_elder' (rZ HO_12.out) (Kd.R_base ho0) hb); have n5_ := Aside0.mk (Kd.R_elder' (rZ HO465.out) (Kd.R_base ho0) hb); have n6_ := Aside0.mk (Kd.R_lower (Kd.R_new' (Kd.R_new' (Kd.R_new' (Kd.R_new' (Kd.R_new' (Kd.R_new' ho0 (Kd.R_lt (rZ HO_8.out))) (Kd.R_lt (rZ HO_9.out))) (Kd.R_lt (rZ HO_10.out))) (Kd.R_lt (rZ HO_11.out))) (Kd.R_lt (rZ HO_12.out))) (Kd.R_lt (rZ HO465.out))) (below_size (bZ HB.out))); have n7_ := Aside0.mk (below_step (bZ HB.out) hb); clear HO_8; clear HO_9; clear HO_10; clear HO_11; clear HO_12; clear HO465; clear HB; have HO_8 := n0_; have HO_9 := n1_; have HO_10 := n2_; have HO_11 := n3_; have HO_12 := n4_; have HO465 := n5_; have HO468 := n6_; have HB := n7_; clear n0_ n1_ n2_ n3_ n4_ n5_ n6_ n7_; (try clear hb); (try clear hb2); (try clear hk); (try clear hi); (try clear ho0)) | ((with_reducible refine gate_callee (f := 19) rfl ?_); refine goesL_ (some 78) rfl rfl Try.func19 (by kernel_rfl) rfl #[.slice Ao18 t426.length co18, .slice Ao16 t423.length co16] rfl (by (try simp only [List.map_toArray, List.map_cons, List.map_nil]); first | done | rfl | (simp only [List.length_drop, List.length_take]; rfl)) ?_; (with_reducible refine (span_Meet.calls _ _ t426 _ _ t423 t469 _ ?side1 ?side2 ?side3 ?side4 A74.out).mono ?_); (case side1 => repeat (first | exact (Kd.R_reads' HO_10.out).2.2 | (with_reducible refine Kd.C_alloc ?_ _) | (with_reducible refine Kd.C_drewN ?_ _) | (with_reducible refine Kd.C_drew ?_))); (case side2 => exact (Kd.R_reads' HO_10.out).2.1); (case side3 => repeat (first | exact (Kd.R_reads' HO_9.out).2.2 | (with_reducible refine Kd.C_alloc ?_ _) | (with_reducible refine Kd.C_drewN ?_ _) | (with_reducible refine Kd.C_drew ?_))); (case side4 => exact (Kd.R_reads' HO_9.out).2.1); rintro e w86 ⟨v470, rfl, ho0, hb⟩; refine ⟨_, rfl, ?_⟩; have n0_ := Aside0.mk (Kd.R_elder' (rZ HO_8.out) (Kd.R_base ho0) hb); have n1_ := Aside0.mk (Kd.R_elder' (rZ HO_9.out) (Kd.R_base ho0) hb); have n2_ := Aside0.mk (Kd.R_elder' (rZ HO_10.out) (Kd.R_base ho0) hb); have n3_ := Aside0.mk (Kd.R_elder' (rZ HO_11.out) (Kd.R_base ho0) hb); have n4_ := Aside0.mk (Kd.R_elder' (rZ HO_12.out) (Kd.R_base ho0) hb); have n5_ := Aside0.mk (Kd.R_elder' (rZ HO465.out) (Kd.R_base ho0) hb); have n6_ := Aside0.mk (Kd.R_elder' (rZ HO468.out) (Kd.R_base ho0) hb); have n7_ := Aside0.mk (Kd.R_lower (Kd.R_new' (Kd.R_new' (Kd.R_new' (Kd.R_new' (Kd.R_new' (Kd.R_new' (Kd.R_new' ho0 (Kd.R_lt (rZ HO_8.out))) (Kd.R_lt (rZ HO_9.out))) (Kd.R_lt (rZ HO_10.out))) (Kd.R_lt (rZ HO_11.out))) (Kd.R_lt (rZ HO_12.out))) (Kd.R_lt (rZ HO465.out))) (Kd.R_lt (rZ HO468.out))) (below_size (bZ HB.out))); have n8_ := Aside0.mk (below_step (bZ HB.out) hb); clear HO_8; clear HO_9; clear HO_10; clear HO_11; clear HO_12; clear HO465; clear HO468; clear HB; have HO_8 := n0_; have HO_9 := n1_; have HO_10 := n2_; have HO_11 := n3_; have HO_12 := n4_; have HO465 := n5_; have HO468 := n6_; have HO471 := n7_; have HB := n8_; clear n0_ n1_ n2_ n3_ n4_ n5_ n6_ n7_ n8_; (try clear hb); (try clear hb2); (try clear hk); (try clear hi); (try clear ho0); obtain ⟨Ao87, co87, eo87⟩ := Kd.R_slice HO468.out; subst eo87; obtain ⟨Ao88, co88, eo88⟩ := Kd.R_slice HO471.out; subst eo88) | ((with_reducible refine gate_callee (f := 17) rfl ?_); refine goesL_ (some 79) rfl rfl Try.func17 (by kernel_rfl) rfl #[.slice Ao87 t466.length co87, .slice Ao88 t469.length co88] rfl (by (try simp only [List.map_toArray, List.map_cons, List.map_nil]); first | done | rfl | (simp only [List.length_drop, List.length_take]; rfl)) ?_; (with_reducible refine (span_Union.calls _ _ t466 _ _ t469 t472 _ ?side1 ?side2 ?side3 ?side4 A75.out).mono ?_); (case side1 => repeat (first | exact (Kd.R_reads' HO468.out).2.2 | (with_reducible refine Kd.C_alloc ?_ _) | (with_reducible refine Kd.C_drewN ?_ _) | (with_reducible refine Kd.C_drew ?_))); (case side2 => exact (Kd.R_reads' HO468.out).2.1); (case side3 => repeat (first | exact (Kd.R_reads' HO471.out).2.2 | (with_reducible refine Kd.C_alloc ?_ _) | (with_reducible refine Kd.C_drewN ?_ _) | (with_reducible refine Kd.C_drew ?_))); (case side4 => exact (Kd.R_reads' HO471.out).2.1); rintro e w89 ⟨v473, rfl, ho0, hb⟩; refine ⟨_, rfl, ?_⟩; have n0_ := Aside0.mk (Kd.R_elder' (rZ HO_8.out) (Kd.R_base ho0) hb); have n1_ := Aside0.mk (Kd.R_elder' (rZ HO_9.out) (Kd.R_base ho0) hb); have n2_ := Aside0.mk (Kd.R_elder' (rZ HO_10.out) (Kd.R_base ho0) hb); have n3_ := Aside0.mk (Kd.R_elder' (rZ HO_11.out) (Kd.R_base ho0) hb); have n4_ := Aside0.mk (Kd.R_elder' (rZ HO_12.out) (Kd.R_base ho0) hb); have n5_ := Aside0.mk (Kd.R_elder' (rZ HO465.out) (Kd.R_base ho0) hb); have n6_ := Aside0.mk (Kd.R_elder' (rZ HO468.out) (Kd.R_base ho0) hb); have n7_ := Aside0.mk (Kd.R_elder' (rZ HO471.out) (Kd.R_base ho0) hb); have n8_ := Aside0.mk (Kd.R_lower (Kd.R_new' (Kd.R_new' (Kd.R_new' (Kd.R_new' (Kd.R_new' (Kd.R_new' (Kd.R_new' (Kd.R_new' ho0 (Kd.R_lt (rZ HO_8.out))) (Kd.R_lt (rZ HO_9.out))) (Kd.R_lt (rZ HO_10.out))) (Kd.R_lt (rZ HO_11.out))) (Kd.R_lt (rZ HO_12.out))) (Kd.R_lt (rZ HO465.out))) (Kd.R_lt (rZ HO468.out))) (Kd.R_lt (rZ HO471.out))) (below_size (bZ HB.out))); have n9_ := Aside0.mk (below_step (bZ HB.out) hb); clear HO_8; clear HO_9; clear HO_10; clear HO_11; clear HO_12; clear HO465; clear HO468; clear HO471; clear HB; have HO_8 := n0_; have HO_9 := n1_; have HO_10 := n2_; have HO_11 := n3_; have HO_12 := n4_; have HO465 := n5_; have HO468 := n6_; have HO471 := n7_; have HO474 := n8_; have HB := n9_; clear n0_ n1_ n2_ n3_ n4_ n5_ n6_ n7_ n8_ n9_; (try clear hb); (try clear hb2); (try clear hk); (try clear hi); (try clear ho0); obtain ⟨Ao90, co90, eo90⟩ := Kd.R_slice HO465.out; subst eo90; obtain ⟨Ao91, co91, eo91⟩ := Kd.R_slice HO474.out; subst eo91) | ((with_reducible refine gate_callee (f := 14) rfl ?_); refine goesL_ (some 80) rfl rfl Try.func14 (by kernel_rfl) rfl #[.slice Ao90 t463.length co90, .slice Ao91 t472.length co91] rfl (by (try simp only [List.map_toArray, List.map_cons, List.map_nil]); first | done | rfl | (simp only [List.length_drop, List.length_take]; rfl)) ?_; (with_reducible refine (r11_Same.calls kj39 _ _ t463 _ _ t472 true _ ?side1 ?side2 ?side3 ?side4 A76.out).mono ?_); (case side1 => repeat (first | exact (Kd.R_reads' HO465.out).2.2 | (with_reducible refine Kd.C_alloc ?_ _) | (with_reducible refine Kd.C_drewN ?_ _) | (with_reducible refine Kd.C_drew ?_))); (case side2 => exact (Kd.R_reads' HO465.out).2.1); (case side3 => repeat (first | exact (Kd.R_reads' HO474.out).2.2 | (with_reducible refine Kd.C_alloc ?_ _) | (with_reducible refine Kd.C_drewN ?_ _) | (with_reducible refine Kd.C_drew ?_))); (case side4 => exact (Kd.R_reads' HO474.out).2.1); rintro e w' ⟨rfl, ⟨nd, rfl⟩⟩; refine ⟨_, rfl, ?_⟩; obtain ⟨Ao92, co92, eo92⟩ := Kd.R_slice HO_12.out; subst eo92) | (go_at_call 21; (with_reducible refine (span_Minus.calls _ _ t420 _ _ t432 t476 _ ?side1 ?side2 ?side3 ?side4 A78.out).mono ?_); (case side1 => repeat (first | exact (Kd.R_reads' HO_8.out).2.2 | (with_reducible refine Kd.C_alloc ?_ _) | (with_reducible refine Kd.C_drewN ?_ _) | (with_reducible refine Kd.C_drew ?_))); (case side2 => exact (Kd.R_reads' HO_8.out).2.1); (case side3 => repeat (first | exact (Kd.R_reads' HO_12.out).2.2 | (with_reducible refine Kd.C_alloc ?_ _) | (with_reducible refine Kd.C_drewN ?_ _) | (with_reducible refine Kd.C_drew ?_))); (case side4 => exact (Kd.R_reads' HO_12.out).2.1); rintro e w93 ⟨v477, rfl, ho0, hb⟩; have n0_ := Aside0.mk (Kd.R_elder' (rZ HO_8.out) (Kd.R_base ho0) hb); have n1_ := Aside0.mk (Kd.R_elder' (rZ HO_9.out) (Kd.R_base ho0) hb); have n2_ := Aside0.mk (Kd.R_elder' (rZ HO_10.out) (Kd.R_base ho0) hb); have n3_ := Aside0.mk (Kd.R_elder' (rZ HO_11.out) (Kd.R_base ho0) hb); have n4_ := Aside0.mk (Kd.R_elder' (rZ HO_12.out) (Kd.R_base ho0) hb); have n5_ := Aside0.mk (Kd.R_elder' (rZ HO465.out) (Kd.R_base ho0) hb); have n6_ := Aside0.mk (Kd.R_elder' (rZ HO468.out) (Kd.R_base ho0) hb); have n7_ := Aside0.mk (Kd.R_elder' (rZ HO471.out) (Kd.R_base ho0) hb); have n8_ := Aside0.mk (Kd.R_elder' (rZ HO474.out) (Kd.R_base ho0) hb); have n9_ := Aside0.mk (Kd.R_lower (Kd.R_new' (Kd.R_new' (Kd.R_new' (Kd.R_new' (Kd.R_new' (Kd.R_new' (Kd.R_new' (Kd.R_new' (Kd.R_new' ho0 (Kd.R_lt (rZ HO_8.out))) (Kd.R_lt (rZ HO_9.out))) (Kd.R_lt (rZ HO_10.out))) (Kd.R_lt (rZ HO_11.out))) (Kd.R_lt (rZ HO_12.out))) (Kd.R_lt (rZ HO465.out))) (Kd.R_lt (rZ HO468.out))) (Kd.R_lt (rZ HO471.out))) (Kd.R_lt (rZ HO474.out))) (below_size (bZ HB.out))); have n10_ := Aside0.mk (below_step (bZ HB.out) hb); clear HO_8; clear HO_9; clear HO_10; clear HO_11; clear HO_12; clear HO465; clear HO468; clear HO471; clear HO474; clear HB; have HO_8 := n0_; have HO_9 := n1_; have HO_10 := n2_; have HO_11 := n3_; have HO_12 := n4_; have HO465 := n5_; have HO468 := n6_; have HO471 := n7_; have HO474 := n8_; have HO478 := n9_; have HB := n10_; clear n0_ n1_ n2_ n3_ n4_ n5_ n6_ n7_ n8_ n9_ n10_; (try clear hb); (try clear hb2); (try clear hk); (try clear hi); (try clear ho0)) | (go_at_call 21; (with_reducible refine (span_Minus.calls _ _ t420 _ _ t423 t479 _ ?side1 ?side2 ?side3 ?side4 A79.out).mono ?_); (case side1 => repeat (first | exact (Kd.R_reads' HO_8.out).2.2 | (with_reducible refine Kd.C_alloc ?_ _) | (with_reducible refine Kd.C_drewN ?_ _) | (with_reducible refine Kd.C_drew ?_))); (case side2 => exact (Kd.R_reads' HO_8.out).2.1); (case side3 => repeat (first | exact (Kd.R_reads' HO_9.out).2.2 | (with_reducible refine Kd.C_alloc ?_ _) | (with_reducible refine Kd.C_drewN ?_ _) | (with_reducible refine Kd.C_drew ?_))); (case side4 => exact (Kd.R_reads' HO_9.out).2.1); rintro e w94 ⟨v480, rfl, ho0, hb⟩; have n0_ := Aside0.mk (Kd.R_elder' (rZ HO_8.out) (Kd.R_base ho0) hb); have n1_ := Aside0.mk (Kd.R_elder' (rZ HO_9.out) (Kd.R_base ho0) hb); have n2_ := Aside0.mk (Kd.R_elder' (rZ HO_10.out) (Kd.R_base ho0) hb); have n3_ := Aside0.mk (Kd.R_elder' (rZ HO_11.out) (Kd.R_base ho0) hb); have n4_ := Aside0.mk (Kd.R_elder' (rZ HO_12.out) (Kd.R_base ho0) hb); have n5_ := Aside0.mk (Kd.R_elder' (rZ HO465.out) (Kd.R_base ho0) hb); have n6_ := Aside0.mk (Kd.R_elder' (rZ HO468.out) (Kd.R_base ho0) hb); have n7_ := Aside0.mk (Kd.R_elder' (rZ HO471.out) (Kd.R_base ho0) hb); have n8_ := Aside0.mk (Kd.R_elder' (rZ HO474.out) (Kd.R_base ho0) hb); have n9_ := Aside0.mk (Kd.R_elder' (rZ HO478.out) (Kd.R_base ho0) hb); have n10_ := Aside0.mk (Kd.R_lower (Kd.R_new' (Kd.R_new' (Kd.R_new' (Kd.R_new' (Kd.R_new' (Kd.R_new' (Kd.R_new' (Kd.R_new' (Kd.R_new' (Kd.R_new' ho0 (Kd.R_lt (rZ HO_8.out))) (Kd.R_lt (rZ HO_9.out))) (Kd.R_lt (rZ HO_10.out))) (Kd.R_lt (rZ HO_11.out))) (Kd.R_lt (rZ HO_12.out))) (Kd.R_lt (rZ HO465.out))) (Kd.R_lt (rZ HO468.out))) (Kd.R_lt (rZ HO471.out))) (Kd.R_lt (rZ HO474.out))) (Kd.R_lt (rZ HO478.out))) (below_size (bZ HB.out))); have n11_ := Aside0.mk (below_step (bZ HB.out) hb); clear HO_8; clear HO_9; clear HO_10; clear HO_11; clear HO_12; clear HO465; clear HO468; clear HO471; clear HO474; clear HO478; clear HB; have HO_8 := n0_; have HO_9 := n1_; have HO_10 := n2_; have HO_11 := n3_; have HO_12 := n4_; have HO465 := n5_; have HO468 := n6_; have HO471 := n7_; have HO474 := n8_; have HO478 := n9_; have HO481 := n10_; have HB := n11_; clear n0_ n1_ n2_ n3_ n4_ n5_ n6_ n7_ n8_ n9_ n10_ n11_; (try clear hb); (try clear hb2); (try clear hk); (try clear hi); (try clear ho0)) | (go_at_call 21; (with_reducible refine (span_Minus.calls _ _ t420 _ _ t426 t482 _ ?side1 ?side2 ?side3 ?side4 A80.out).mono ?_); (case side1 => repeat (first | exact (Kd.R_reads' HO_8.out).2.2 | (with_reducible refine Kd.C_alloc ?_ _) | (with_reducible refine Kd.C_drewN ?_ _) | (with_reducible refine Kd.C_drew ?_))); (case side2 => exact (Kd.R_reads' HO_8.out).2.1); (case side3 => repeat (first | exact (Kd.R_reads' HO_10.out).2.2 | (with_reducible refine Kd.C_alloc ?_ _) | (with_reducible refine Kd.C_drewN ?_ _) | (with_reducible refine Kd.C_drew ?_))); (case side4 => exact (Kd.R_reads' HO_10.out).2.1); rintro e w95 ⟨v483, rfl, ho0, hb⟩; have n0_ := Aside0.mk (Kd.R_elder' (rZ HO_8.out) (Kd.R_base ho0) hb); have n1_ := Aside0.mk (Kd.R_elder' (rZ HO_9.out) (Kd.R_base ho0) hb); have n2_ := Aside0.mk (Kd.R_elder' (rZ HO_10.out) (Kd.R_base ho0) hb); have n3_ := Aside0.mk (Kd.R_elder' (rZ HO_11.out) (Kd.R_base ho0) hb); have n4_ := Aside0.mk (Kd.R_elder' (rZ HO_12.out) (Kd.R_base ho0) hb); have n5_ := Aside0.mk (Kd.R_elder' (rZ HO465.out) (Kd.R_base ho0) hb); have n6_ := Aside0.mk (Kd.R_elder' (rZ HO468.out) (Kd.R_base ho0) hb); have n7_ := Aside0.mk (Kd.R_elder' (rZ HO471.out) (Kd.R_base ho0) hb); have n8_ := Aside0.mk (Kd.R_elder' (rZ HO474.out) (Kd.R_base ho0) hb); have n9_ := Aside0.mk (Kd.R_elder' (rZ HO478.out) (Kd.R_base ho0) hb); have n10_ := Aside0.mk (Kd.R_elder' (rZ HO481.out) (Kd.R_base ho0) hb); have n11_ := Aside0.mk (Kd.R_lower (Kd.R_new' (Kd.R_new' (Kd.R_new' (Kd.R_new' (Kd.R_new' (Kd.R_new' (Kd.R_new' (Kd.R_new' (Kd.R_new' (Kd.R_new' (Kd.R_new' ho0 (Kd.R_lt (rZ HO_8.out))) (Kd.R_lt (rZ HO_9.out))) (Kd.R_lt (rZ HO_10.out))) (Kd.R_lt (rZ HO_11.out))) (Kd.R_lt (rZ HO_12.out))) (Kd.R_lt (rZ HO465.out))) (Kd.R_lt (rZ HO468.out))) (Kd.R_lt (rZ HO471.out))) (Kd.R_lt (rZ HO474.out))) (Kd.R_lt (rZ HO478.out))) (Kd.R_lt (rZ HO481.out))) (below_size (bZ HB.out))); have n12_ := Aside0.mk (below_step (bZ HB.out) hb); clear HO_8; clear HO_9; clear HO_10; clear HO_11; clear HO_12; clear HO465; clear HO468; clear HO471; clear HO474; clear HO478; clear HO481; clear HB; have HO_8 := n0_; have HO_9 := n1_; have HO_10 := n2_; have HO_11 := n3_; have HO_12 := n4_; have HO465 := n5_; have HO468 := n6_; have HO471 := n7_; have HO474 := n8_; have HO478 := n9_; have HO481 := n10_; have HO484 := n11_; have HB := n12_; clear n0_ n1_ n2_ n3_ n4_ n5_ n6_ n7_ n8_ n9_ n10_ n11_ n12_; (try clear hb); (try clear hb2); (try clear hk); (try clear hi); (try clear ho0); obtain ⟨Ao96, co96, eo96⟩ := Kd.R_slice HO481.out; subst eo96; obtain ⟨Ao97, co97, eo97⟩ := Kd.R_slice HO484.out; subst eo97) | (go_at_call 17; (with_reducible refine (span_Union.calls _ _ t479 _ _ t482 t485 _ ?side1 ?side2 ?side3 ?side4 A81.out).mono ?_); (case side1 => repeat (first | exact (Kd.R_reads' HO481.out).2.2 | (with_reducible refine Kd.C_alloc ?_ _) | (with_reducible refine Kd.C_drewN ?_ _) | (with_reducible refine Kd.C_drew ?_))); (case side2 => exact (Kd.R_reads' HO481.out).2.1); (case side3 => repeat (first | exact (Kd.R_reads' HO484.out).2.2 | (with_reducible refine Kd.C_alloc ?_ _) | (with_reducible refine Kd.C_drewN ?_ _) | (with_reducible refine Kd.C_drew ?_))); (case side4 => exact (Kd.R_reads' HO484.out).2.1); rintro e w98 ⟨v486, rfl, ho0, hb⟩; have n0_ := Aside0.mk (Kd.R_elder' (rZ HO_8.out) (Kd.R_base ho0) hb); have n1_ := Aside0.mk (Kd.R_elder' (rZ HO_9.out) (Kd.R_base ho0) hb); have n2_ := Aside0.mk (Kd.R_elder' (rZ HO_10.out) (Kd.R_base ho0) hb); have n3_ := Aside0.mk (Kd.R_elder' (rZ HO_11.out) (Kd.R_base ho0) hb); have n4_ := Aside0.mk (Kd.R_elder' (rZ HO_12.out) (Kd.R_base ho0) hb); have n5_ := Aside0.mk (Kd.R_elder' (rZ HO465.out) (Kd.R_base ho0) hb); have n6_ := Aside0.mk (Kd.R_elder' (rZ HO468.out) (Kd.R_base ho0) hb); have n7_ := Aside0.mk (Kd.R_elder' (rZ HO471.out) (Kd.R_base ho0) hb); have n8_ := Aside0.mk (Kd.R_elder' (rZ HO474.out) (Kd.R_base ho0) hb); have n9_ := Aside0.mk (Kd.R_elder' (rZ HO478.out) (Kd.R_base ho0) hb); have n10_ := Aside0.mk (Kd.R_elder' (rZ HO481.out) (Kd.R_base ho0) hb); have n11_ := Aside0.mk (Kd.R_elder' (rZ HO484.out) (Kd.R_base ho0) hb); have n12_ := Aside0.mk (Kd.R_lower (Kd.R_new' (Kd.R_new' (Kd.R_new' (Kd.R_new' (Kd.R_new' (Kd.R_new' (Kd.R_new' (Kd.R_new' (Kd.R_new' (Kd.R_new' (Kd.R_new' (Kd.R_new' ho0 (Kd.R_lt (rZ HO_8.out))) (Kd.R_lt (rZ HO_9.out))) (Kd.R_lt (rZ HO_10.out))) (Kd.R_lt (rZ HO_11.out))) (Kd.R_lt (rZ HO_12.out))) (Kd.R_lt (rZ HO465.out))) (Kd.R_lt (rZ HO468.out))) (Kd.R_lt (rZ HO471.out))) (Kd.R_lt (rZ HO474.out))) (Kd.R_lt (rZ HO478.out))) (Kd.R_lt (rZ HO481.out))) (Kd.R_lt (rZ HO484.out))) (below_size (bZ HB.out))); have n13_ := Aside0.mk (below_step (bZ HB.out) hb); clear HO_8; clear HO_9; clear HO_10; clear HO_11; clear HO_12; clear HO465; clear HO468; clear HO471; clear HO474; clear HO478; clear HO481; clear HO484; clear HB; have HO_8 := n0_; have HO_9 := n1_; have HO_10 := n2_; have HO_11 := n3_; have HO_12 := n4_; have HO465 := n5_; have HO468 := n6_; have HO471 := n7_; have HO474 := n8_; have HO478 := n9_; have HO481 := n10_; have HO484 := n11_; have HO487 := n12_; have HB := n13_; clear n0_ n1_ n2_ n3_ n4_ n5_ n6_ n7_ n8_ n9_ n10_ n11_ n12_ n13_; (try clear hb); (try clear hb2); (try clear hk); (try clear hi); (try clear ho0); obtain ⟨Ao99, co99, eo99⟩ := Kd.R_slice HO478.out; subst eo99; obtain ⟨Ao100, co100, eo100⟩ := Kd.R_slice HO487.out; subst eo100) | (go_at_call 14; (with_reducible refine (r11_Same.calls kj39 _ _ t476 _ _ t485 t488 _ ?side1 ?side2 ?side3 ?side4 A82.out).mono ?_); (case side1 => repeat (first | exact (Kd.R_reads' HO478.out).2.2 | (with_reducible refine Kd.C_alloc ?_ _) | (with_reducible refine Kd.C_drewN ?_ _) | (with_reducible refine Kd.C_drew ?_))); (case side2 => exact (Kd.R_reads' HO478.out).2.1); (case side3 => repeat (first | exact (Kd.R_reads' HO487.out).2.2 | (with_reducible refine Kd.C_alloc ?_ _) | (with_reducible refine Kd.C_drewN ?_ _) | (with_reducible refine Kd.C_drew ?_))); (case side4 => exact (Kd.R_reads' HO487.out).2.1); rintro e w' ⟨rfl, ⟨nd, rfl⟩⟩))
          go_meet
          case rel => exact ⟨_, (t488), (by first | rfl | (simp; done) | (simp [*]; done)), H', ⟨by have := HJ9.out; have := HJ24.out; have := HJ39.out; first | omega | exact Nat.le_refl _⟩, ⟨by (with_reducible repeat (first | apply Kd.R_alloc | apply Kd.R_drewN | apply Kd.R_drew)); exact Kd.R_mono HO_8.out (fun _ hk => hk.1.1.1.1.1.1.1.1.1)⟩, ⟨by (with_reducible repeat (first | apply Kd.R_alloc | apply Kd.R_drewN | apply Kd.R_drew)); exact Kd.R_mono HO_9.out (fun _ hk => hk.1.1.1.1.1.1.1.1.1)⟩, ⟨by repeat (first | (with_reducible first | exact HB.out | apply below_alloc | apply pw_below_drewN | apply below_drew1) | exact HB.out)⟩⟩
         ·replace c77 := Bool.eq_false_iff.mpr c77
          subst c77
          have H1 : (l11_SpanLaws.j3 kj39 t419 t420 t423 x13_24 x14_39 false) = some r := by rw [if_neg (show ¬ (false = true) by decide)] at H; exact H
          clear H
          have H := H1
          clear H1
          have H' := Aside0.mk H
          clear H
          obtain ⟨Ao101, co101, eo101⟩ := Kd.R_slice HO_11.out
          subst eo101
          go_wp2_with (first | ((with_reducible refine gate_callee (f := 19) rfl ?_); refine goesL_ (some 72) rfl rfl Try.func19 (by kernel_rfl) rfl #[.slice Ao18 t426.length co18, .slice Ao101 t429.length co101] rfl (by (try simp only [List.map_toArray, List.map_cons, List.map_nil]); first | done | rfl | (simp only [List.length_drop, List.length_take]; rfl)) ?_; (with_reducible refine (span_Meet.calls _ _ t426 _ _ t429 t463 _ ?side1 ?side2 ?side3 ?side4 A72.out).mono ?_); (case side1 => repeat (first | exact (Kd.R_reads' HO_10.out).2.2 | (with_reducible refine Kd.C_alloc ?_ _) | (with_reducible refine Kd.C_drewN ?_ _) | (with_reducible refine Kd.C_drew ?_))); (case side2 => exact (Kd.R_reads' HO_10.out).2.1); (case side3 => repeat (first | exact (Kd.R_reads' HO_11.out).2.2 | (with_reducible refine Kd.C_alloc ?_ _) | (with_reducible refine Kd.C_drewN ?_ _) | (with_reducible refine Kd.C_drew ?_))); (case side4 => exact (Kd.R_reads' HO_11.out).2.1); rintro e w102 ⟨v464, rfl, ho0, hb⟩; refine ⟨_, rfl, ?_⟩; have n0_ := Aside0.mk (Kd.R_elder' (rZ HO_8.out) (Kd.R_base ho0) hb); have n1_ := Aside0.mk (Kd.R_elder' (rZ HO_9.out) (Kd.R_base ho0) hb); have n2_ := Aside0.mk (Kd.R_elder' (rZ HO_10.out) (Kd.R_base ho0) hb); have n3_ := Aside0.mk (Kd.R_elder' (rZ HO_11.out) (Kd.R_base ho0) hb); have n4_ := Aside0.mk (Kd.R_elder' (rZ HO_12.out) (Kd.R_base ho0) hb); have n5_ := Aside0.mk (Kd.R_lower (Kd.R_new' (Kd.R_new' (Kd.R_new' (Kd.R_new' (Kd.R_new' ho0 (Kd.R_lt (rZ HO_8.out))) (Kd.R_lt (rZ HO_9.out))) (Kd.R_lt (rZ HO_10.out))) (Kd.R_lt (rZ HO_11.out))) (Kd.R_lt (rZ HO_12.out))) (below_size (bZ HB.out))); have n6_ := Aside0.mk (below_step (bZ HB.out) hb); clear HO_8; clear HO_9; clear HO_10; clear HO_11; clear HO_12; clear HB; have HO_8 := n0_; have HO_9 := n1_; have HO_10 := n2_; have HO_11 := n3_; have HO_12 := n4_; have HO465 := n5_; have HB := n6_; clear n0_ n1_ n2_ n3_ n4_ n5_ n6_; (try clear hb); (try clear hb2); (try clear hk); (try clear hi); (try clear ho0)) | ((with_reducible refine gate_callee (f := 19) rfl ?_); refine goesL_ (some 75) rfl rfl Try.func19 (by kernel_rfl) rfl #[.slice Ao18 t426.length co18, .slice Ao15 t420.length co15] rfl (by (try simp only [List.map_toArray, List.map_cons, List.map_nil]); first | done | rfl | (simp only [List.length_drop, List.length_take]; rfl)) ?_; (with_reducible refine (span_Meet.calls _ _ t426 _ _ t420 t466 _ ?side1 ?side2 ?side3 ?side4 A73.out).mono ?_); (case side1 => repeat (first | exact (Kd.R_reads' HO_10.out).2.2 | (with_reducible refine Kd.C_alloc ?_ _) | (with_reducible refine Kd.C_drewN ?_ _) | (with_reducible refine Kd.C_drew ?_))); (case side2 => exact (Kd.R_reads' HO_10.out).2.1); (case side3 => repeat (first | exact (Kd.R_reads' HO_8.out).2.2 | (with_reducible refine Kd.C_alloc ?_ _) | (with_reducible refine Kd.C_drewN ?_ _) | (with_reducible refine Kd.C_drew ?_))); (case side4 => exact (Kd.R_reads' HO_8.out).2.1); rintro e w103 ⟨v467, rfl, ho0, hb⟩; refine ⟨_, rfl, ?_⟩; have n0_ := Aside0.mk (Kd.R_elder' (rZ HO_8.out) (Kd.R_base ho0) hb); have n1_ := Aside0.mk (Kd.R_elder' (rZ HO_9.out) (Kd.R_base ho0) hb); have n2_ := Aside0.mk (Kd.R_elder' (rZ HO_10.out) (Kd.R_base ho0) hb); have n3_ := Aside0.mk (Kd.R_elder' (rZ HO_11.out) (Kd.R_base ho0) hb); have n4_ := Aside0.mk (Kd.R_elder' (rZ HO_12.out) (Kd.R_base ho0) hb); have n5_ := Aside0.mk (Kd.R_elder' (rZ HO465.out) (Kd.R_base ho0) hb); have n6_ := Aside0.mk (Kd.R_lower (Kd.R_new' (Kd.R_new' (Kd.R_new' (Kd.R_new' (Kd.R_new' (Kd.R_new' ho0 (Kd.R_lt (rZ HO_8.out))) (Kd.R_lt (rZ HO_9.out))) (Kd.R_lt (rZ HO_10.out))) (Kd.R_lt (rZ HO_11.out))) (Kd.R_lt (rZ HO_12.out))) (Kd.R_lt (rZ HO465.out))) (below_size (bZ HB.out))); have n7_ := Aside0.mk (below_step (bZ HB.out) hb); clear HO_8; clear HO_9; clear HO_10; clear HO_11; clear HO_12; clear HO465; clear HB; have HO_8 := n0_; have HO_9 := n1_; have HO_10 := n2_; have HO_11 := n3_; have HO_12 := n4_; have HO465 := n5_; have HO468 := n6_; have HB := n7_; clear n0_ n1_ n2_ n3_ n4_ n5_ n6_ n7_; (try clear hb); (try clear hb2); (try clear hk); (try clear hi); (try clear ho0)) | ((with_reducible refine gate_callee (f := 19) rfl ?_); refine goesL_ (some 78) rfl rfl Try.func19 (by kernel_rfl) rfl #[.slice Ao18 t426.length co18, .slice Ao16 t423.length co16] rfl (by (try simp only [List.map_toArray, List.map_cons, List.map_nil]); first | done | rfl | (simp only [List.length_drop, List.length_take]; rfl)) ?_; (with_reducible refine (span_Meet.calls _ _ t426 _ _ t423 t469 _ ?side1 ?side2 ?side3 ?side4 A74.out).mono ?_); (case side1 => repeat (first | exact (Kd.R_reads' HO_10.out).2.2 | (with_reducible refine Kd.C_alloc ?_ _) | (with_reducible refine Kd.C_drewN ?_ _) | (with_reducible refine Kd.C_drew ?_))); (case side2 => exact (Kd.R_reads' HO_10.out).2.1); (case side3 => repeat (first | exact (Kd.R_reads' HO_9.out).2.2 | (with_reducible refine Kd.C_alloc ?_ _) | (with_reducible refine Kd.C_drewN ?_ _) | (with_reducible refine Kd.C_drew ?_))); (case side4 => exact (Kd.R_reads' HO_9.out).2.1); rintro e w104 ⟨v470, rfl, ho0, hb⟩; refine ⟨_, rfl, ?_⟩; have n0_ := Aside0.mk (Kd.R_elder' (rZ HO_8.out) (Kd.R_base ho0) hb); have n1_ := Aside0.mk (Kd.R_elder' (rZ HO_9.out) (Kd.R_base ho0) hb); have n2_ := Aside0.mk (Kd.R_elder' (rZ HO_10.out) (Kd.R_base ho0) hb); have n3_ := Aside0.mk (Kd.R_elder' (rZ HO_11.out) (Kd.R_base ho0) hb); have n4_ := Aside0.mk (Kd.R_elder' (rZ HO_12.out) (Kd.R_base ho0) hb); have n5_ := Aside0.mk (Kd.R_elder' (rZ HO465.out) (Kd.R_base ho0) hb); have n6_ := Aside0.mk (Kd.R_elder' (rZ HO468.out) (Kd.R_base ho0) hb); have n7_ := Aside0.mk (Kd.R_lower (Kd.R_new' (Kd.R_new' (Kd.R_new' (Kd.R_new' (Kd.R_new' (Kd.R_new' (Kd.R_new' ho0 (Kd.R_lt (rZ HO_8.out))) (Kd.R_lt (rZ HO_9.out))) (Kd.R_lt (rZ HO_10.out))) (Kd.R_lt (rZ HO_11.out))) (Kd.R_lt (rZ HO_12.out))) (Kd.R_lt (rZ HO465.out))) (Kd.R_lt (rZ HO468.out))) (below_size (bZ HB.out))); have n8_ := Aside0.mk (below_step (bZ HB.out) hb); clear HO_8; clear HO_9; clear HO_10; clear HO_11; clear HO_12; clear HO465; clear HO468; clear HB; have HO_8 := n0_; have HO_9 := n1_; have HO_10 := n2_; have HO_11 := n3_; have HO_12 := n4_; have HO465 := n5_; have HO468 := n6_; have HO471 := n7_; have HB := n8_; clear n0_ n1_ n2_ n3_ n4_ n5_ n6_ n7_ n8_; (try clear hb); (try clear hb2); (try clear hk); (try clear hi); (try clear ho0); obtain ⟨Ao105, co105, eo105⟩ := Kd.R_slice HO468.out; subst eo105; obtain ⟨Ao106, co106, eo106⟩ := Kd.R_slice HO471.out; subst eo106) | ((with_reducible refine gate_callee (f := 17) rfl ?_); refine goesL_ (some 79) rfl rfl Try.func17 (by kernel_rfl) rfl #[.slice Ao105 t466.length co105, .slice Ao106 t469.length co106] rfl (by (try simp only [List.map_toArray, List.map_cons, List.map_nil]); first | done | rfl | (simp only [List.length_drop, List.length_take]; rfl)) ?_; (with_reducible refine (span_Union.calls _ _ t466 _ _ t469 t472 _ ?side1 ?side2 ?side3 ?side4 A75.out).mono ?_); (case side1 => repeat (first | exact (Kd.R_reads' HO468.out).2.2 | (with_reducible refine Kd.C_alloc ?_ _) | (with_reducible refine Kd.C_drewN ?_ _) | (with_reducible refine Kd.C_drew ?_))); (case side2 => exact (Kd.R_reads' HO468.out).2.1); (case side3 => repeat (first | exact (Kd.R_reads' HO471.out).2.2 | (with_reducible refine Kd.C_alloc ?_ _) | (with_reducible refine Kd.C_drewN ?_ _) | (with_reducible refine Kd.C_drew ?_))); (case side4 => exact (Kd.R_reads' HO471.out).2.1); rintro e w107 ⟨v473, rfl, ho0, hb⟩; refine ⟨_, rfl, ?_⟩; have n0_ := Aside0.mk (Kd.R_elder' (rZ HO_8.out) (Kd.R_base ho0) hb); have n1_ := Aside0.mk (Kd.R_elder' (rZ HO_9.out) (Kd.R_base ho0) hb); have n2_ := Aside0.mk (Kd.R_elder' (rZ HO_10.out) (Kd.R_base ho0) hb); have n3_ := Aside0.mk (Kd.R_elder' (rZ HO_11.out) (Kd.R_base ho0) hb); have n4_ := Aside0.mk (Kd.R_elder' (rZ HO_12.out) (Kd.R_base ho0) hb); have n5_ := Aside0.mk (Kd.R_elder' (rZ HO465.out) (Kd.R_base ho0) hb); have n6_ := Aside0.mk (Kd.R_elder' (rZ HO468.out) (Kd.R_base ho0) hb); have n7_ := Aside0.mk (Kd.R_elder' (rZ HO471.out) (Kd.R_base ho0) hb); have n8_ := Aside0.mk (Kd.R_lower (Kd.R_new' (Kd.R_new' (Kd.R_new' (Kd.R_new' (Kd.R_new' (Kd.R_new' (Kd.R_new' (Kd.R_new' ho0 (Kd.R_lt (rZ HO_8.out))) (Kd.R_lt (rZ HO_9.out))) (Kd.R_lt (rZ HO_10.out))) (Kd.R_lt (rZ HO_11.out))) (Kd.R_lt (rZ HO_12.out))) (Kd.R_lt (rZ HO465.out))) (Kd.R_lt (rZ HO468.out))) (Kd.R_lt (rZ HO471.out))) (below_size (bZ HB.out))); have n9_ := Aside0.mk (below_step (bZ HB.out) hb); clear HO_8; clear HO_9; clear HO_10; clear HO_11; clear HO_12; clear HO465; clear HO468; clear HO471; clear HB; have HO_8 := n0_; have HO_9 := n1_; have HO_10 := n2_; have HO_11 := n3_; have HO_12 := n4_; have HO465 := n5_; have HO468 := n6_; have HO471 := n7_; have HO474 := n8_; have HB := n9_; clear n0_ n1_ n2_ n3_ n4_ n5_ n6_ n7_ n8_ n9_; (try clear hb); (try clear hb2); (try clear hk); (try clear hi); (try clear ho0); obtain ⟨Ao108, co108, eo108⟩ := Kd.R_slice HO465.out; subst eo108; obtain ⟨Ao109, co109, eo109⟩ := Kd.R_slice HO474.out; subst eo109) | ((with_reducible refine gate_callee (f := 14) rfl ?_); refine goesL_ (some 80) rfl rfl Try.func14 (by kernel_rfl) rfl #[.slice Ao108 t463.length co108, .slice Ao109 t472.length co109] rfl (by (try simp only [List.map_toArray, List.map_cons, List.map_nil]); first | done | rfl | (simp only [List.length_drop, List.length_take]; rfl)) ?_; (with_reducible refine (r11_Same.calls kj39 _ _ t463 _ _ t472 false _ ?side1 ?side2 ?side3 ?side4 A76.out).mono ?_); (case side1 => repeat (first | exact (Kd.R_reads' HO465.out).2.2 | (with_reducible refine Kd.C_alloc ?_ _) | (with_reducible refine Kd.C_drewN ?_ _) | (with_reducible refine Kd.C_drew ?_))); (case side2 => exact (Kd.R_reads' HO465.out).2.1); (case side3 => repeat (first | exact (Kd.R_reads' HO474.out).2.2 | (with_reducible refine Kd.C_alloc ?_ _) | (with_reducible refine Kd.C_drewN ?_ _) | (with_reducible refine Kd.C_drew ?_))); (case side4 => exact (Kd.R_reads' HO474.out).2.1); rintro e w' ⟨rfl, ⟨nd, rfl⟩⟩; refine ⟨_, rfl, ?_⟩))
          go_meet
          case rel => exact ⟨_, (false), (by first | rfl | (simp; done) | (simp [*]; done)), H', ⟨by have := HJ9.out; have := HJ24.out; have := HJ39.out; first | omega | exact Nat.le_refl _⟩, ⟨by (with_reducible repeat (first | apply Kd.R_alloc | apply Kd.R_drewN | apply Kd.R_drew)); exact Kd.R_mono HO_8.out (fun _ hk => hk.1.1.1.1.1)⟩, ⟨by (with_reducible repeat (first | apply Kd.R_alloc | apply Kd.R_drewN | apply Kd.R_drew)); exact Kd.R_mono HO_9.out (fun _ hk => hk.1.1.1.1.1)⟩, ⟨by repeat (first | (with_reducible first | exact HB.out | apply below_alloc | apply pw_below_drewN | apply below_drew1) | exact HB.out)⟩⟩
        case rest =>
         clear HC71
         try clear c1
         try clear c2
         try clear p2
         try clear c4
         try clear c6
         try clear c7
         try clear c10
         try clear c11
         try clear c14
         try clear c17
         try clear c19
         try clear c20
         try clear c20b0
         try clear c20b1
         try clear c24
         try clear c28
         try clear c45
         try clear c77
         try clear p2
         obtain ⟨kq, x15_70, rfl, HA, HJ70, HO_8, HO_9, HB⟩ := hcut
         cases kq with
         | zero => exact absurd HA.out (by simp [l11_SpanLaws.j3])
         | succ kj70 =>
          have H := HA.out
          clear HA
          simp only [l11_SpanLaws.j3] at H
          replace H := Option.bind_eq_some_iff.mp H
          obtain ⟨t489, A1100, H⟩ := H
          replace H : ((span_Meet.f t420 t423).bind fun t492 => ((span_Union.f t489 t492).bind fun t495 => ((span_Norm.f t420).bind fun t498 => ((r11_Same.f kj70 t495 t498).bind fun t501 => (if t501 = true then ((span_Minus.f t420 t423).bind fun t502 => ((span_Meet.f t502 t423).bind fun t505 => (if x13_24 = true then (if x14_39 = true then (if x15_70 = true then (if (t505.length : Int) = 0 then (some t419) else (some false)) else (some false)) else (some false)) else (some false)))) else (if x13_24 = true then (if x14_39 = true then (if x15_70 = true then (some false) else (some false)) else (some false)) else (some false))))))) = some r := H
          have A110 := Aside0.mk A1100
          clear A1100
          replace H := Option.bind_eq_some_iff.mp H
          obtain ⟨t492, A1110, H⟩ := H
          replace H : ((span_Union.f t489 t492).bind fun t495 => ((span_Norm.f t420).bind fun t498 => ((r11_Same.f kj70 t495 t498).bind fun t501 => (if t501 = true then ((span_Minus.f t420 t423).bind fun t502 => ((span_Meet.f t502 t423).bind fun t505 => (if x13_24 = true then (if x14_39 = true then (if x15_70 = true then (if (t505.length : Int) = 0 then (some t419) else (some false)) else (some false)) else (some false)) else (some false)))) else (if x13_24 = true then (if x14_39 = true then (if x15_70 = true then (some false) else (some false)) else (some false)) else (some false)))))) = some r := H
          have A111 := Aside0.mk A1110
          clear A1110
          replace H := Option.bind_eq_some_iff.mp H
          obtain ⟨t495, A1120, H⟩ := H
          replace H : ((span_Norm.f t420).bind fun t498 => ((r11_Same.f kj70 t495 t498).bind fun t501 => (if t501 = true then ((span_Minus.f t420 t423).bind fun t502 => ((span_Meet.f t502 t423).bind fun t505 => (if x13_24 = true then (if x14_39 = true then (if x15_70 = true then (if (t505.length : Int) = 0 then (some t419) else (some false)) else (some false)) else (some false)) else (some false)))) else (if x13_24 = true then (if x14_39 = true then (if x15_70 = true then (some false) else (some false)) else (some false)) else (some false))))) = some r := H
          have A112 := Aside0.mk A1120
          clear A1120
          replace H := Option.bind_eq_some_iff.mp H
          obtain ⟨t498, A1130, H⟩ := H
          replace H : ((r11_Same.f kj70 t495 t498).bind fun t501 => (if t501 = true then ((span_Minus.f t420 t423).bind fun t502 => ((span_Meet.f t502 t423).bind fun t505 => (if x13_24 = true then (if x14_39 = true then (if x15_70 = true then (if (t505.length : Int) = 0 then (some t419) else (some false)) else (some false)) else (some false)) else (some false)))) else (if x13_24 = true then (if x14_39 = true then (if x15_70 = true then (some false) else (some false)) else (some false)) else (some false)))) = some r := H
          have A113 := Aside0.mk A1130
          clear A1130
          replace H := Option.bind_eq_some_iff.mp H
          obtain ⟨t501, A1140, H⟩ := H
          replace H : (if t501 = true then ((span_Minus.f t420 t423).bind fun t502 => ((span_Meet.f t502 t423).bind fun t505 => (if x13_24 = true then (if x14_39 = true then (if x15_70 = true then (if (t505.length : Int) = 0 then (some t419) else (some false)) else (some false)) else (some false)) else (some false)))) else (if x13_24 = true then (if x14_39 = true then (if x15_70 = true then (some false) else (some false)) else (some false)) else (some false))) = some r := H
          have A114 := Aside0.mk A1140
          clear A1140
          by_cases c115 : t501 = true
          ·subst c115
           have H1 : ((span_Minus.f t420 t423).bind fun t502 => ((span_Meet.f t502 t423).bind fun t505 => (if x13_24 = true then (if x14_39 = true then (if x15_70 = true then (if (t505.length : Int) = 0 then (some t419) else (some false)) else (some false)) else (some false)) else (some false)))) = some r := by rw [if_pos rfl] at H; exact H
           clear H
           have H := H1
           clear H1
           replace H := Option.bind_eq_some_iff.mp H
           obtain ⟨t502, A1160, H⟩ := H
           replace H : ((span_Meet.f t502 t423).bind fun t505 => (if x13_24 = true then (if x14_39 = true then (if x15_70 = true then (if (t505.length : Int) = 0 then (some t419) else (some false)) else (some false)) else (some false)) else (some false))) = some r := H
           have A116 := Aside0.mk A1160
           clear A1160
           replace H := Option.bind_eq_some_iff.mp H
           obtain ⟨t505, A1170, H⟩ := H
           replace H : (if x13_24 = true then (if x14_39 = true then (if x15_70 = true then (if (t505.length : Int) = 0 then (some t419) else (some false)) else (some false)) else (some false)) else (some false)) = some r := H
           have A117 := Aside0.mk A1170
           clear A1170
           by_cases c118 : x13_24 = true
           ·subst c118
            have H1 : (if x14_39 = true then (if x15_70 = true then (if (t505.length : Int) = 0 then (some t419) else (some false)) else (some false)) else (some false)) = some r := by rw [if_pos rfl] at H; exact H
            clear H
            have H := H1
            clear H1
            by_cases c119 : x14_39 = true
            ·subst c119
             have H1 : (if x15_70 = true then (if (t505.length : Int) = 0 then (some t419) else (some false)) else (some false)) = some r := by rw [if_pos rfl] at H; exact H
             clear H
             have H := H1
             clear H1
             by_cases c120 : x15_70 = true
             ·subst c120
              have H1 : (if (t505.length : Int) = 0 then (some t419) else (some false)) = some r := by rw [if_pos rfl] at H; exact H
              clear H
              have H := H1
              clear H1
              by_cases c121 : (t505.length : Int) = 0
              ·rw [if_pos c121] at H
               have c121b0 : ((t505.length : Int) == 0) = true := beq_iff_eq.mpr c121
               have c121b1 : ((t505.length : Int) != 0) = false := bne_eq_false_iff_eq.mpr c121
               clear c121
               clear HLAW
               obtain rfl := Option.some.inj H
               go_wp2_with (first | ((with_reducible refine gate_callee (f := 21) rfl ?_); refine goesL_ (some 96) rfl rfl Try.func21 (by kernel_rfl) rfl #[.slice Ao15 t420.length co15, .slice Ao16 t423.length co16] rfl (by (try simp only [List.map_toArray, List.map_cons, List.map_nil]); first | done | rfl | (simp only [List.length_drop, List.length_take]; rfl)) ?_; (with_reducible refine (span_Minus.calls _ _ t420 _ _ t423 t489 _ ?side1 ?side2 ?side3 ?side4 A110.out).mono ?_); (case side1 => repeat (first | exact (Kd.R_reads' HO_8.out).2.2 | (with_reducible refine Kd.C_alloc ?_ _) | (with_reducible refine Kd.C_drewN ?_ _) | (with_reducible refine Kd.C_drew ?_))); (case side2 => exact (Kd.R_reads' HO_8.out).2.1); (case side3 => repeat (first | exact (Kd.R_reads' HO_9.out).2.2 | (with_reducible refine Kd.C_alloc ?_ _) | (with_reducible refine Kd.C_drewN ?_ _) | (with_reducible refine Kd.C_drew ?_))); (case side4 => exact (Kd.R_reads' HO_9.out).2.1); rintro e w122 ⟨v490, rfl, ho0, hb⟩; refine ⟨_, rfl, ?_⟩; have n0_ := Aside0.mk (Kd.R_elder' (rZ HO_8.out) (Kd.R_base ho0) hb); have n1_ := Aside0.mk (Kd.R_elder' (rZ HO_9.out) (Kd.R_base ho0) hb); have n2_ := Aside0.mk (Kd.R_lower (Kd.R_new' (Kd.R_new' ho0 (Kd.R_lt (rZ HO_8.out))) (Kd.R_lt (rZ HO_9.out))) (below_size (bZ HB.out))); have n3_ := Aside0.mk (below_step (bZ HB.out) hb); clear HO_8; clear HO_9; clear HB; have HO_8 := n0_; have HO_9 := n1_; have HO491 := n2_; have HB := n3_; clear n0_ n1_ n2_ n3_; (try clear hb); (try clear hb2); (try clear hk); (try clear hi); (try clear ho0)) | ((with_reducible refine gate_callee (f := 19) rfl ?_); refine goesL_ (some 99) rfl rfl Try.func19 (by kernel_rfl) rfl #[.slice Ao15 t420.length co15, .slice Ao16 t423.length co16] rfl (by (try simp only [List.map_toArray, List.map_cons, List.map_nil]); first | done | rfl | (simp only [List.length_drop, List.length_take]; rfl)) ?_; (with_reducible refine (span_Meet.calls _ _ t420 _ _ t423 t492 _ ?side1 ?side2 ?side3 ?side4 A111.out).mono ?_); (case side1 => repeat (first | exact (Kd.R_reads' HO_8.out).2.2 | (with_reducible refine Kd.C_alloc ?_ _) | (with_reducible refine Kd.C_drewN ?_ _) | (with_reducible refine Kd.C_drew ?_))); (case side2 => exact (Kd.R_reads' HO_8.out).2.1); (case side3 => repeat (first | exact (Kd.R_reads' HO_9.out).2.2 | (with_reducible refine Kd.C_alloc ?_ _) | (with_reducible refine Kd.C_drewN ?_ _) | (with_reducible refine Kd.C_drew ?_))); (case side4 => exact (Kd.R_reads' HO_9.out).2.1); rintro e w123 ⟨v493, rfl, ho0, hb⟩; refine ⟨_, rfl, ?_⟩; have n0_ := Aside0.mk (Kd.R_elder' (rZ HO_8.out) (Kd.R_base ho0) hb); have n1_ := Aside0.mk (Kd.R_elder' (rZ HO_9.out) (Kd.R_base ho0) hb); have n2_ := Aside0.mk (Kd.R_elder' (rZ HO491.out) (Kd.R_base ho0) hb); have n3_ := Aside0.mk (Kd.R_lower (Kd.R_new' (Kd.R_new' (Kd.R_new' ho0 (Kd.R_lt (rZ HO_8.out))) (Kd.R_lt (rZ HO_9.out))) (Kd.R_lt (rZ HO491.out))) (below_size (bZ HB.out))); have n4_ := Aside0.mk (below_step (bZ HB.out) hb); clear HO_8; clear HO_9; clear HO491; clear HB; have HO_8 := n0_; have HO_9 := n1_; have HO491 := n2_; have HO494 := n3_; have HB := n4_; clear n0_ n1_ n2_ n3_ n4_; (try clear hb); (try clear hb2); (try clear hk); (try clear hi); (try clear ho0); obtain ⟨Ao124, co124, eo124⟩ := Kd.R_slice HO491.out; subst eo124; obtain ⟨Ao125, co125, eo125⟩ := Kd.R_slice HO494.out; subst eo125) | ((with_reducible refine gate_callee (f := 17) rfl ?_); refine goesL_ (some 100) rfl rfl Try.func17 (by kernel_rfl) rfl #[.slice Ao124 t489.length co124, .slice Ao125 t492.length co125] rfl (by (try simp only [List.map_toArray, List.map_cons, List.map_nil]); first | done | rfl | (simp only [List.length_drop, List.length_take]; rfl)) ?_; (with_reducible refine (span_Union.calls _ _ t489 _ _ t492 t495 _ ?side1 ?side2 ?side3 ?side4 A112.out).mono ?_); (case side1 => repeat (first | exact (Kd.R_reads' HO491.out).2.2 | (with_reducible refine Kd.C_alloc ?_ _) | (with_reducible refine Kd.C_drewN ?_ _) | (with_reducible refine Kd.C_drew ?_))); (case side2 => exact (Kd.R_reads' HO491.out).2.1); (case side3 => repeat (first | exact (Kd.R_reads' HO494.out).2.2 | (with_reducible refine Kd.C_alloc ?_ _) | (with_reducible refine Kd.C_drewN ?_ _) | (with_reducible refine Kd.C_drew ?_))); (case side4 => exact (Kd.R_reads' HO494.out).2.1); rintro e w126 ⟨v496, rfl, ho0, hb⟩; refine ⟨_, rfl, ?_⟩; have n0_ := Aside0.mk (Kd.R_elder' (rZ HO_8.out) (Kd.R_base ho0) hb); have n1_ := Aside0.mk (Kd.R_elder' (rZ HO_9.out) (Kd.R_base ho0) hb); have n2_ := Aside0.mk (Kd.R_elder' (rZ HO491.out) (Kd.R_base ho0) hb); have n3_ := Aside0.mk (Kd.R_elder' (rZ HO494.out) (Kd.R_base ho0) hb); have n4_ := Aside0.mk (Kd.R_lower (Kd.R_new' (Kd.R_new' (Kd.R_new' (Kd.R_new' ho0 (Kd.R_lt (rZ HO_8.out))) (Kd.R_lt (rZ HO_9.out))) (Kd.R_lt (rZ HO491.out))) (Kd.R_lt (rZ HO494.out))) (below_size (bZ HB.out))); have n5_ := Aside0.mk (below_step (bZ HB.out) hb); clear HO_8; clear HO_9; clear HO491; clear HO494; clear HB; have HO_8 := n0_; have HO_9 := n1_; have HO491 := n2_; have HO494 := n3_; have HO497 := n4_; have HB := n5_; clear n0_ n1_ n2_ n3_ n4_ n5_; (try clear hb); (try clear hb2); (try clear hk); (try clear hi); (try clear ho0)) | ((with_reducible refine gate_callee (f := 15) rfl ?_); refine goesL_ (some 102) rfl rfl Try.func15 (by kernel_rfl) rfl #[.slice Ao15 t420.length co15] rfl (by (try simp only [List.map_toArray, List.map_cons, List.map_nil]); first | done | rfl | (simp only [List.length_drop, List.length_take]; rfl)) ?_; (with_reducible refine (span_Norm.calls _ _ t420 t498 _ ?side1 ?side2 A113.out).mono ?_); (case side1 => repeat (first | exact (Kd.R_reads' HO_8.out).2.2 | (with_reducible refine Kd.C_alloc ?_ _) | (with_reducible refine Kd.C_drewN ?_ _) | (with_reducible refine Kd.C_drew ?_))); (case side2 => exact (Kd.R_reads' HO_8.out).2.1); rintro e w127 ⟨v499, rfl, ho0, hb⟩; refine ⟨_, rfl, ?_⟩; have n0_ := Aside0.mk (Kd.R_elder' (rZ HO_8.out) (Kd.R_base ho0) hb); have n1_ := Aside0.mk (Kd.R_elder' (rZ HO_9.out) (Kd.R_base ho0) hb); have n2_ := Aside0.mk (Kd.R_elder' (rZ HO491.out) (Kd.R_base ho0) hb); have n3_ := Aside0.mk (Kd.R_elder' (rZ HO494.out) (Kd.R_base ho0) hb); have n4_ := Aside0.mk (Kd.R_elder' (rZ HO497.out) (Kd.R_base ho0) hb); have n5_ := Aside0.mk (Kd.R_lower (Kd.R_new' (Kd.R_new' (Kd.R_new' (Kd.R_new' (Kd.R_new' ho0 (Kd.R_lt (rZ HO_8.out))) (Kd.R_lt (rZ HO_9.out))) (Kd.R_lt (rZ HO491.out))) (Kd.R_lt (rZ HO494.out))) (Kd.R_lt (rZ HO497.out))) (below_size (bZ HB.out))); have n6_ := Aside0.mk (below_step (bZ HB.out) hb); clear HO_8; clear HO_9; clear HO491; clear HO494; clear HO497; clear HB; have HO_8 := n0_; have HO_9 := n1_; have HO491 := n2_; have HO494 := n3_; have HO497 := n4_; have HO500 := n5_; have HB := n6_; clear n0_ n1_ n2_ n3_ n4_ n5_ n6_; (try clear hb); (try clear hb2); (try clear hk); (try clear hi); (try clear ho0); obtain ⟨Ao128, co128, eo128⟩ := Kd.R_slice HO497.out; subst eo128; obtain ⟨Ao129, co129, eo129⟩ := Kd.R_slice HO500.out; subst eo129) | ((with_reducible refine gate_callee (f := 14) rfl ?_); refine goesL_ (some 103) rfl rfl Try.func14 (by kernel_rfl) rfl #[.slice Ao128 t495.length co128, .slice Ao129 t498.length co129] rfl (by (try simp only [List.map_toArray, List.map_cons, List.map_nil]); first | done | rfl | (simp only [List.length_drop, List.length_take]; rfl)) ?_; (with_reducible refine (r11_Same.calls kj70 _ _ t495 _ _ t498 true _ ?side1 ?side2 ?side3 ?side4 A114.out).mono ?_); (case side1 => repeat (first | exact (Kd.R_reads' HO497.out).2.2 | (with_reducible refine Kd.C_alloc ?_ _) | (with_reducible refine Kd.C_drewN ?_ _) | (with_reducible refine Kd.C_drew ?_))); (case side2 => exact (Kd.R_reads' HO497.out).2.1); (case side3 => repeat (first | exact (Kd.R_reads' HO500.out).2.2 | (with_reducible refine Kd.C_alloc ?_ _) | (with_reducible refine Kd.C_drewN ?_ _) | (with_reducible refine Kd.C_drew ?_))); (case side4 => exact (Kd.R_reads' HO500.out).2.1); rintro e w' ⟨rfl, ⟨nd, rfl⟩⟩; refine ⟨_, rfl, ?_⟩) | (go_at_call 21; (with_reducible refine (span_Minus.calls _ _ t420 _ _ t423 t502 _ ?side1 ?side2 ?side3 ?side4 A116.out).mono ?_); (case side1 => repeat (first | exact (Kd.R_reads' HO_8.out).2.2 | (with_reducible refine Kd.C_alloc ?_ _) | (with_reducible refine Kd.C_drewN ?_ _) | (with_reducible refine Kd.C_drew ?_))); (case side2 => exact (Kd.R_reads' HO_8.out).2.1); (case side3 => repeat (first | exact (Kd.R_reads' HO_9.out).2.2 | (with_reducible refine Kd.C_alloc ?_ _) | (with_reducible refine Kd.C_drewN ?_ _) | (with_reducible refine Kd.C_drew ?_))); (case side4 => exact (Kd.R_reads' HO_9.out).2.1); rintro e w130 ⟨v503, rfl, ho0, hb⟩; have n0_ := Aside0.mk (Kd.R_elder' (rZ HO_8.out) (Kd.R_base ho0) hb); have n1_ := Aside0.mk (Kd.R_elder' (rZ HO_9.out) (Kd.R_base ho0) hb); have n2_ := Aside0.mk (Kd.R_elder' (rZ HO491.out) (Kd.R_base ho0) hb); have n3_ := Aside0.mk (Kd.R_elder' (rZ HO494.out) (Kd.R_base ho0) hb); have n4_ := Aside0.mk (Kd.R_elder' (rZ HO497.out) (Kd.R_base ho0) hb); have n5_ := Aside0.mk (Kd.R_elder' (rZ HO500.out) (Kd.R_base ho0) hb); have n6_ := Aside0.mk (Kd.R_lower (Kd.R_new' (Kd.R_new' (Kd.R_new' (Kd.R_new' (Kd.R_new' (Kd.R_new' ho0 (Kd.R_lt (rZ HO_8.out))) (Kd.R_lt (rZ HO_9.out))) (Kd.R_lt (rZ HO491.out))) (Kd.R_lt (rZ HO494.out))) (Kd.R_lt (rZ HO497.out))) (Kd.R_lt (rZ HO500.out))) (below_size (bZ HB.out))); have n7_ := Aside0.mk (below_step (bZ HB.out) hb); clear HO_8; clear HO_9; clear HO491; clear HO494; clear HO497; clear HO500; clear HB; have HO_8 := n0_; have HO_9 := n1_; have HO491 := n2_; have HO494 := n3_; have HO497 := n4_; have HO500 := n5_; have HO504 := n6_; have HB := n7_; clear n0_ n1_ n2_ n3_ n4_ n5_ n6_ n7_; (try clear hb); (try clear hb2); (try clear hk); (try clear hi); (try clear ho0); obtain ⟨Ao131, co131, eo131⟩ := Kd.R_slice HO504.out; subst eo131) | (go_at_call 19; (with_reducible refine (span_Meet.calls _ _ t502 _ _ t423 t505 _ ?side1 ?side2 ?side3 ?side4 A117.out).mono ?_); (case side1 => repeat (first | exact (Kd.R_reads' HO504.out).2.2 | (with_reducible refine Kd.C_alloc ?_ _) | (with_reducible refine Kd.C_drewN ?_ _) | (with_reducible refine Kd.C_drew ?_))); (case side2 => exact (Kd.R_reads' HO504.out).2.1); (case side3 => repeat (first | exact (Kd.R_reads' HO_9.out).2.2 | (with_reducible refine Kd.C_alloc ?_ _) | (with_reducible refine Kd.C_drewN ?_ _) | (with_reducible refine Kd.C_drew ?_))); (case side4 => exact (Kd.R_reads' HO_9.out).2.1); rintro e w132 ⟨v506, rfl, ho0, hb⟩; have n0_ := Aside0.mk (Kd.R_elder' (rZ HO_8.out) (Kd.R_base ho0) hb); have n1_ := Aside0.mk (Kd.R_elder' (rZ HO_9.out) (Kd.R_base ho0) hb); have n2_ := Aside0.mk (Kd.R_elder' (rZ HO491.out) (Kd.R_base ho0) hb); have n3_ := Aside0.mk (Kd.R_elder' (rZ HO494.out) (Kd.R_base ho0) hb); have n4_ := Aside0.mk (Kd.R_elder' (rZ HO497.out) (Kd.R_base ho0) hb); have n5_ := Aside0.mk (Kd.R_elder' (rZ HO500.out) (Kd.R_base ho0) hb); have n6_ := Aside0.mk (Kd.R_elder' (rZ HO504.out) (Kd.R_base ho0) hb); have n7_ := Aside0.mk (Kd.R_lower (Kd.R_new' (Kd.R_new' (Kd.R_new' (Kd.R_new' (Kd.R_new' (Kd.R_new' (Kd.R_new' ho0 (Kd.R_lt (rZ HO_8.out))) (Kd.R_lt (rZ HO_9.out))) (Kd.R_lt (rZ HO491.out))) (Kd.R_lt (rZ HO494.out))) (Kd.R_lt (rZ HO497.out))) (Kd.R_lt (rZ HO500.out))) (Kd.R_lt (rZ HO504.out))) (below_size (bZ HB.out))); have n8_ := Aside0.mk (below_step (bZ HB.out) hb); clear HO_8; clear HO_9; clear HO491; clear HO494; clear HO497; clear HO500; clear HO504; clear HB; have HO_8 := n0_; have HO_9 := n1_; have HO491 := n2_; have HO494 := n3_; have HO497 := n4_; have HO500 := n5_; have HO504 := n6_; have HO507 := n7_; have HB := n8_; clear n0_ n1_ n2_ n3_ n4_ n5_ n6_ n7_ n8_; (try clear hb); (try clear hb2); (try clear hk); (try clear hi); (try clear ho0); obtain ⟨Ao133, co133, eo133⟩ := Kd.R_slice HO507.out; subst eo133))
               go_ret
               exact ⟨by first | rfl | (simp [errW_none, errW_some] <;> rfl) | (simp [*, errW_none, errW_some] <;> rfl) | (exfalso; simp_all only [aside0_iff, Option.some.injEq, reduceCtorEq]), by repeat (first | (with_reducible first | exact HB.out | apply below_alloc | apply pw_below_drewN | apply below_drew1) | exact HB.out)⟩
              ·rw [if_neg c121] at H
               have c121b0 : ((t505.length : Int) == 0) = false := beq_eq_false_iff_ne.mpr c121
               have c121b1 : ((t505.length : Int) != 0) = true := bne_iff_ne.mpr c121
               have c121b2 : ¬ (t505 = []) := fun h_ => c121 (by rw [h_]; rfl)
               exact absurd ((Option.some.inj H).trans HLAW.out) (by decide)
             ·replace c120 := Bool.eq_false_iff.mpr c120
              subst c120
              have H1 : (some false) = some r := by rw [if_neg (show ¬ (false = true) by decide)] at H; exact H
              clear H
              have H := H1
              clear H1
              exact absurd ((Option.some.inj H).trans HLAW.out) (by decide)
            ·replace c119 := Bool.eq_false_iff.mpr c119
             subst c119
             have H1 : (some false) = some r := by rw [if_neg (show ¬ (false = true) by decide)] at H; exact H
             clear H
             have H := H1
             clear H1
             exact absurd ((Option.some.inj H).trans HLAW.out) (by decide)
           ·replace c118 := Bool.eq_false_iff.mpr c118
            subst c118
            have H1 : (some false) = some r := by rw [if_neg (show ¬ (false = true) by decide)] at H; exact H
            clear H
            have H := H1
            clear H1
            exact absurd ((Option.some.inj H).trans HLAW.out) (by decide)
          ·replace c115 := Bool.eq_false_iff.mpr c115
           subst c115
           have H1 : (if x13_24 = true then (if x14_39 = true then (if x15_70 = true then (some false) else (some false)) else (some false)) else (some false)) = some r := by rw [if_neg (show ¬ (false = true) by decide)] at H; exact H
           clear H
           have H := H1
           clear H1
           by_cases c134 : x13_24 = true
           ·subst c134
            have H1 : (if x14_39 = true then (if x15_70 = true then (some false) else (some false)) else (some false)) = some r := by rw [if_pos rfl] at H; exact H
            clear H
            have H := H1
            clear H1
            by_cases c135 : x14_39 = true
            ·subst c135
             have H1 : (if x15_70 = true then (some false) else (some false)) = some r := by rw [if_pos rfl] at H; exact H
             clear H
             have H := H1
             clear H1
             by_cases c136 : x15_70 = true
             ·subst c136
              have H1 : (some false) = some r := by rw [if_pos rfl] at H; exact H
              clear H
              have H := H1
              clear H1
              exact absurd ((Option.some.inj H).trans HLAW.out) (by decide)
             ·replace c136 := Bool.eq_false_iff.mpr c136
              subst c136
              have H1 : (some false) = some r := by rw [if_neg (show ¬ (false = true) by decide)] at H; exact H
              clear H
              have H := H1
              clear H1
              exact absurd ((Option.some.inj H).trans HLAW.out) (by decide)
            ·replace c135 := Bool.eq_false_iff.mpr c135
             subst c135
             have H1 : (some false) = some r := by rw [if_neg (show ¬ (false = true) by decide)] at H; exact H
             clear H
             have H := H1
             clear H1
             exact absurd ((Option.some.inj H).trans HLAW.out) (by decide)
           ·replace c134 := Bool.eq_false_iff.mpr c134
            subst c134
            have H1 : (some false) = some r := by rw [if_neg (show ¬ (false = true) by decide)] at H; exact H
            clear H
            have H := H1
            clear H1
            exact absurd ((Option.some.inj H).trans HLAW.out) (by decide)

/-- THE ONE PURE STATEMENT of l11_SpanLaws: yours. -/
def l11_SpanLaws.Pure : Prop := ∀ (l0 : List (S24)) (l1 : List (S24)) (l2 : List (S24)), (l0.length ≤ maxLen ∧ l0.length * 16 ≤ 140737488351232 ∧ ∀ x1_ ∈ l0, ((Lit.int .i64 x1_.f0).wf = true) ∧ ((Lit.int .i64 x1_.f1).wf = true)) → (l1.length ≤ maxLen ∧ l1.length * 16 ≤ 140737488351232 ∧ ∀ x1_ ∈ l1, ((Lit.int .i64 x1_.f0).wf = true) ∧ ((Lit.int .i64 x1_.f1).wf = true)) → (l2.length ≤ maxLen ∧ l2.length * 16 ≤ 140737488351232 ∧ ∀ x1_ ∈ l2, ((Lit.int .i64 x1_.f0).wf = true) ∧ ((Lit.int .i64 x1_.f1).wf = true)) → ∃ k, l11_SpanLaws.f k l0 l1 l2 = some true

end Go.Proofs.Ytebggajdojdebaa.PS
