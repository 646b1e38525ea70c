/- Plain Lean functions with the answers of the Go functions that these laws reach, and proofs that the calls come to them; written by this session's program. -/
import Derived.Test.YtebggajdojdebaaPSx0
import Derived.Test.YtebggajdojdebaaPSx2
import Derived.Test.YtebggajdojdebaaPSx3
import Derived.Test.YtebggajdojdebaaPSx4
import Derived.Test.YtebggajdojdebaaPSx5
import Derived.Test.YtebggajdojdebaaPSx6
import Derived.Test.YtebggajdojdebaaPSx8
namespace Go.Proofs.Ytebggajdojdebaa.PS
open Go.RowKit Go.Proofs.YtebggajdojdebaaW.PrintWords Go.Proofs.YtebggajdojdebaaW.PrintLast Go.Proofs.YtebggajdojdebaaW.PrintMore
attribute [local go_sem] max2_int min2_int max_two min_two max_three min_three max_four min_four   -- for this text's walks alone
set_option linter.unusedVariables false
set_option linter.unusedSimpArgs false

/-! ### l11_SpanMatchesReference: function 3 -/
def l11_SpanMatchesReference.j0 : Nat → Bool → List (S24) → Bool → Int → Int → Int → List (S49) → Option (Bool)
 | 0, _, _, _, _, _, _, _ => none
 | k + 1, x7, x8, x58, x320000, x320001, x320002, x320003 => if x58 = true then (some false) else ((r11_Made.f k x320003).bind fun t357 => ((span_Has.f x8 x320000).bind fun t360 => ((r11_Has.f k x8 x320000).bind fun t361 => (if (t360 == t361) = true then ((span_Covers.f x8 x320001 x320002).bind fun t362 => ((r11_Covers.f k x8 x320001 x320002).bind fun t363 => (if (t362 == t363) = true then ((span_Covers.f t357 x320001 x320002).bind fun t364 => ((r11_Covers.f k t357 x320001 x320002).bind fun t365 => (if (t364 == t365) = true then ((span_Total.f k t357).bind fun t366 => ((r11_Total.f k t357).bind fun t367 => (if t366 = t367 then (some x7) else (some false)))) else (some false)))) else (some false)))) else (some false)))))
def l11_SpanMatchesReference.f (k : Nat) (l0 : List (S24)) (l1 : List (S24)) (a2_0 : Int) (a2_1 : Int) (a2_2 : Int) (l2_3 : List (S49)) : Option (Bool) := (l11_sanity.f k).bind fun t320 => ((l11_short.f l0).bind fun t321 => ((l11_short.f l1).bind fun t324 => ((span_Valid.f k t321).bind fun t327 => ((r11_Valid.f k t321).bind fun t328 => (if (t327 != t328) = true then (l11_SpanMatchesReference.j0 k t320 t321 true a2_0 a2_1 a2_2 l2_3) else ((span_Norm.f t321).bind fun t329 => ((r11_Norm.f k t321).bind fun t332 => ((r11_Same.f k t329 t332).bind fun t335 => (if t335 = true then ((span_Union.f t321 t324).bind fun t336 => ((r11_Union.f k t321 t324).bind fun t339 => ((r11_Same.f k t336 t339).bind fun t342 => (if t342 = true then ((span_Meet.f t321 t324).bind fun t343 => ((r11_Meet.f k t321 t324).bind fun t346 => ((r11_Same.f k t343 t346).bind fun t349 => (if t349 = true then ((span_Minus.f t321 t324).bind fun t350 => ((r11_Minus.f k t321 t324).bind fun t353 => ((r11_Same.f k t350 t353).bind fun t356 => (l11_SpanMatchesReference.j0 k t320 t321 (!t356) a2_0 a2_1 a2_2 l2_3)))) else (l11_SpanMatchesReference.j0 k t320 t321 true a2_0 a2_1 a2_2 l2_3))))) else (l11_SpanMatchesReference.j0 k t320 t321 true a2_0 a2_1 a2_2 l2_3))))) else (l11_SpanMatchesReference.j0 k t320 t321 true a2_0 a2_1 a2_2 l2_3))))))))))
theorem l11_SpanMatchesReference.mono_l : ∀ k, (∀ y0 y1 y2 y3 y4 y5 y6, LeO (l11_SpanMatchesReference.j0 k y0 y1 y2 y3 y4 y5 y6) (l11_SpanMatchesReference.j0 (k + 1) y0 y1 y2 y3 y4 y5 y6))
 | 0 => fun _ _ _ _ _ _ _ r h => by simp [l11_SpanMatchesReference.j0] at h
 | k + 1 => by
  have ih0 := l11_SpanMatchesReference.mono_l k
  ·intro y0 y1 y2 y3 y4 y5 y6
   unfold l11_SpanMatchesReference.j0
   repeat' first
   | (with_reducible exact ih0 _ _ _ _ _ _ _)
   | (with_reducible exact l11_sanity.mono _)
   | (with_reducible exact r11_Covers.mono _ _ _ _)
   | (with_reducible exact r11_Has.mono _ _ _)
   | (with_reducible exact r11_Made.mono _ _)
   | (with_reducible exact r11_Meet.mono _ _ _)
   | (with_reducible exact r11_Minus.mono _ _ _)
   | (with_reducible exact r11_Norm.mono _ _)
   | (with_reducible exact r11_Same.mono _ _ _)
   | (with_reducible exact r11_Total.mono _ _)
   | (with_reducible exact r11_Union.mono _ _ _)
   | (with_reducible exact r11_Valid.mono _ _)
   | (with_reducible exact span_Total.mono _ _)
   | (with_reducible exact span_Valid.mono _ _)
   | (with_reducible exact LeO.refl _)
   | (with_reducible exact LeO.none _)
   | (with_reducible refine LeO.ite ?_ ?_)
   | (with_reducible refine LeO.bind ?_ (fun _ => ?_))
   | exact ih0 _ _ _ _ _ _ _
   | exact l11_sanity.mono _
   | exact r11_Covers.mono _ _ _ _
   | exact r11_Has.mono _ _ _
   | exact r11_Made.mono _ _
   | exact r11_Meet.mono _ _ _
   | exact r11_Minus.mono _ _ _
   | exact r11_Norm.mono _ _
   | exact r11_Same.mono _ _ _
   | exact r11_Total.mono _ _
   | exact r11_Union.mono _ _ _
   | exact r11_Valid.mono _ _
   | exact span_Total.mono _ _
   | exact span_Valid.mono _ _
   | exact LeO.none _
   | refine LeO.ite ?_ ?_
   | refine LeO.bind ?_ (fun _ => ?_)
theorem l11_SpanMatchesReference.mono : ∀ a0 a1 a2 a3 a4 a5 k, LeO (l11_SpanMatchesReference.f k a0 a1 a2 a3 a4 a5) (l11_SpanMatchesReference.f (k + 1) a0 a1 a2 a3 a4 a5) := by
 intro a0 a1 a2 a3 a4 a5 k
 have ih0 := l11_SpanMatchesReference.mono_l k
 unfold l11_SpanMatchesReference.f
 repeat' first
   | (with_reducible exact ih0 _ _ _ _ _ _ _)
   | (with_reducible exact l11_sanity.mono _)
   | (with_reducible exact r11_Covers.mono _ _ _ _)
   | (with_reducible exact r11_Has.mono _ _ _)
   | (with_reducible exact r11_Made.mono _ _)
   | (with_reducible exact r11_Meet.mono _ _ _)
   | (with_reducible exact r11_Minus.mono _ _ _)
   | (with_reducible exact r11_Norm.mono _ _)
   | (with_reducible exact r11_Same.mono _ _ _)
   | (with_reducible exact r11_Total.mono _ _)
   | (with_reducible exact r11_Union.mono _ _ _)
   | (with_reducible exact r11_Valid.mono _ _)
   | (with_reducible exact span_Total.mono _ _)
   | (with_reducible exact span_Valid.mono _ _)
   | (with_reducible exact LeO.refl _)
   | (with_reducible exact LeO.none _)
   | (with_reducible refine LeO.ite ?_ ?_)
   | (with_reducible refine LeO.bind ?_ (fun _ => ?_))
   | exact ih0 _ _ _ _ _ _ _
   | exact l11_sanity.mono _
   | exact r11_Covers.mono _ _ _ _
   | exact r11_Has.mono _ _ _
   | exact r11_Made.mono _ _
   | exact r11_Meet.mono _ _ _
   | exact r11_Minus.mono _ _ _
   | exact r11_Norm.mono _ _
   | exact r11_Same.mono _ _ _
   | exact r11_Total.mono _ _
   | exact r11_Union.mono _ _ _
   | exact r11_Valid.mono _ _
   | exact span_Total.mono _ _
   | exact span_Valid.mono _ _
   | exact LeO.none _
   | refine LeO.ite ?_ ?_
   | refine LeO.bind ?_ (fun _ => ?_)
def l11_SpanMatchesReference.T6 : Bool × List (List Nat × List Nat) := (true, [([], []), ([], []), ([1], [1]), ([0, 2], [0, 2]), ([], []), ([], []), ([5], [5]), ([4, 6, 3], [4, 6]), ([3, 7], [3, 7]), ([8, 7], [8]), ([9], [9]), ([9], [9]), ([11, 9], [9, 11]), ([10, 12, 9, 9], [9, 10, 12]), ([9], [9]), ([9], [9]), ([15, 9], [9, 15]), ([14, 16, 13, 9], [9, 14, 16]), ([13, 17, 9], [9, 13, 17]), ([9, 18], [9, 18]), ([19, 17], [19]), ([20], [20]), ([20], [20]), ([22, 20], [20, 22]), ([21, 23, 20, 20], [20, 21, 23]), ([20], [20]), ([20], [20]), ([26, 20], [20, 26]), ([25, 27, 24, 20], [20, 25, 27]), ([24, 28, 20], [20, 24, 28]), ([20, 29], [20, 29]), ([30, 28], [30]), ([31], [31]), ([32, 31, 31], [31, 32]), ([31], [31]), ([34, 33, 31], [31, 34]), ([33, 35, 31], [31, 33, 35]), ([31, 36], [31, 36]), ([37, 35], [37]), ([38], [38]), ([38, 39], [38, 39]), ([40, 38, 0, 1, 2, 3, 4, 5, 6, 7, 8, 9, 10, 11, 12, 13, 14, 15, 16, 17, 18, 19, 20, 21, 22, 23, 24, 25, 26, 27, 28, 29, 30, 31, 32, 33, 34, 35, 36, 37, 38, 39, 40], [40])])
def l11_SpanMatchesReference.B6 : List Nat := [0, 0, 2, 7, 0, 0, 32, 127, 255, 511, 1023, 1023, 3071, 8191, 1023, 1023, 33791, 131071, 262143, 524287, 1048575, 2097151, 2097151, 6291455, 16777215, 2097151, 2097151, 69206015, 268435455, 536870911, 1073741823, 2147483647, 4294967295, 8589934591, 4294967295, 34359738367, 68719476735, 137438953471, 274877906943, 549755813887, 1099511627775, 2199023255551]
theorem l11_SpanMatchesReference.tab6 : rtab .any (opsOf Try.f3 6) = l11_SpanMatchesReference.T6 := by kernel_rfl
theorem l11_SpanMatchesReference.bits6 : waitsOk l11_SpanMatchesReference.T6.2 l11_SpanMatchesReference.B6 = true := by kernel_rfl
set_option maxHeartbeats 8000000 in
set_option maxRecDepth 100000 in
theorem l11_SpanMatchesReference.calls (k : Nat) (A0 : Option Addr) (c0 : Nat) (l0 : List (S24)) (A1 : Option Addr) (c1 : Nat) (l1 : List (S24)) (a2_0 : Int) (a2_1 : Int) (a2_2 : Int) (A2_3 : Option Addr) (c2_3 : Nat) (l2_3 : List (S49)) (r : Bool) (w : World) (hr0 : Kd.C k24 w A0 l0.length l0) (hc0 : l0.length ≤ c0) (hr1 : Kd.C k24 w A1 l1.length l1) (hc1 : l1.length ≤ c1) (hr2_3 : Kd.C k49 w A2_3 l2_3.length l2_3) (hc2_3 : l2_3.length ≤ c2_3) (hr : r = true) (h : l11_SpanMatchesReference.f k l0 l1 a2_0 a2_1 a2_2 l2_3 = some r) :
  Calls Try.prog 3 #[.slice A0 l0.length c0, .slice A1 l1.length c1, .agg #[.int .i64 a2_0, .int .i64 a2_1, .int .i64 a2_2, .slice A2_3 l2_3.length c2_3]] w fun e w' => e = .returned (.bool r) ∧ Below w.heap.size w w' := by
 have hu27 := Try.underlying27
 have hu24 := Try.underlying24
 have HR0 := Aside0.mk hr0
 have HC0 := Aside0.mk hc0
 clear hr0 hc0
 have HR1 := Aside0.mk hr1
 have HC1 := Aside0.mk hc1
 clear hr1 hc1
 have HR2_3 := Aside0.mk hr2_3
 have HC2_3 := Aside0.mk hc2_3
 clear hr2_3 hc2_3
 have HB := Aside0.mk (Below.refl w.heap.size w)
 have HLAW := Aside0.mk hr
 clear hr
 have H : ((l11_sanity.f k).bind fun t320 => ((l11_short.f l0).bind fun t321 => ((l11_short.f l1).bind fun t324 => ((span_Valid.f k t321).bind fun t327 => ((r11_Valid.f k t321).bind fun t328 => (if (t327 != t328) = true then (l11_SpanMatchesReference.j0 k t320 t321 true a2_0 a2_1 a2_2 l2_3) else ((span_Norm.f t321).bind fun t329 => ((r11_Norm.f k t321).bind fun t332 => ((r11_Same.f k t329 t332).bind fun t335 => (if t335 = true then ((span_Union.f t321 t324).bind fun t336 => ((r11_Union.f k t321 t324).bind fun t339 => ((r11_Same.f k t336 t339).bind fun t342 => (if t342 = true then ((span_Meet.f t321 t324).bind fun t343 => ((r11_Meet.f k t321 t324).bind fun t346 => ((r11_Same.f k t343 t346).bind fun t349 => (if t349 = true then ((span_Minus.f t321 t324).bind fun t350 => ((r11_Minus.f k t321 t324).bind fun t353 => ((r11_Same.f k t350 t353).bind fun t356 => (l11_SpanMatchesReference.j0 k t320 t321 (!t356) a2_0 a2_1 a2_2 l2_3)))) else (l11_SpanMatchesReference.j0 k t320 t321 true a2_0 a2_1 a2_2 l2_3))))) else (l11_SpanMatchesReference.j0 k t320 t321 true a2_0 a2_1 a2_2 l2_3))))) else (l11_SpanMatchesReference.j0 k t320 t321 true a2_0 a2_1 a2_2 l2_3))))))))))) = some r := h
 clear h
 replace H := Option.bind_eq_some_iff.mp H
 obtain ⟨t320, A40, H⟩ := H
 replace H : ((l11_short.f l0).bind fun t321 => ((l11_short.f l1).bind fun t324 => ((span_Valid.f k t321).bind fun t327 => ((r11_Valid.f k t321).bind fun t328 => (if (t327 != t328) = true then (l11_SpanMatchesReference.j0 k t320 t321 true a2_0 a2_1 a2_2 l2_3) else ((span_Norm.f t321).bind fun t329 => ((r11_Norm.f k t321).bind fun t332 => ((r11_Same.f k t329 t332).bind fun t335 => (if t335 = true then ((span_Union.f t321 t324).bind fun t336 => ((r11_Union.f k t321 t324).bind fun t339 => ((r11_Same.f k t336 t339).bind fun t342 => (if t342 = true then ((span_Meet.f t321 t324).bind fun t343 => ((r11_Meet.f k t321 t324).bind fun t346 => ((r11_Same.f k t343 t346).bind fun t349 => (if t349 = true then ((span_Minus.f t321 t324).bind fun t350 => ((r11_Minus.f k t321 t324).bind fun t353 => ((r11_Same.f k t350 t353).bind fun t356 => (l11_SpanMatchesReference.j0 k t320 t321 (!t356) a2_0 a2_1 a2_2 l2_3)))) else (l11_SpanMatchesReference.j0 k t320 t321 true a2_0 a2_1 a2_2 l2_3))))) else (l11_SpanMatchesReference.j0 k t320 t321 true a2_0 a2_1 a2_2 l2_3))))) else (l11_SpanMatchesReference.j0 k t320 t321 true a2_0 a2_1 a2_2 l2_3)))))))))) = some r := H
 have A4 := Aside0.mk A40
 clear A40
 replace H := Option.bind_eq_some_iff.mp H
 obtain ⟨t321, A50, H⟩ := H
 replace H : ((l11_short.f l1).bind fun t324 => ((span_Valid.f k t321).bind fun t327 => ((r11_Valid.f k t321).bind fun t328 => (if (t327 != t328) = true then (l11_SpanMatchesReference.j0 k t320 t321 true a2_0 a2_1 a2_2 l2_3) else ((span_Norm.f t321).bind fun t329 => ((r11_Norm.f k t321).bind fun t332 => ((r11_Same.f k t329 t332).bind fun t335 => (if t335 = true then ((span_Union.f t321 t324).bind fun t336 => ((r11_Union.f k t321 t324).bind fun t339 => ((r11_Same.f k t336 t339).bind fun t342 => (if t342 = true then ((span_Meet.f t321 t324).bind fun t343 => ((r11_Meet.f k t321 t324).bind fun t346 => ((r11_Same.f k t343 t346).bind fun t349 => (if t349 = true then ((span_Minus.f t321 t324).bind fun t350 => ((r11_Minus.f k t321 t324).bind fun t353 => ((r11_Same.f k t350 t353).bind fun t356 => (l11_SpanMatchesReference.j0 k t320 t321 (!t356) a2_0 a2_1 a2_2 l2_3)))) else (l11_SpanMatchesReference.j0 k t320 t321 true a2_0 a2_1 a2_2 l2_3))))) else (l11_SpanMatchesReference.j0 k t320 t321 true a2_0 a2_1 a2_2 l2_3))))) else (l11_SpanMatchesReference.j0 k t320 t321 true a2_0 a2_1 a2_2 l2_3))))))))) = some r := H
 have A5 := Aside0.mk A50
 clear A50
 replace H := Option.bind_eq_some_iff.mp H
 obtain ⟨t324, A60, H⟩ := H
 replace H : ((span_Valid.f k t321).bind fun t327 => ((r11_Valid.f k t321).bind fun t328 => (if (t327 != t328) = true then (l11_SpanMatchesReference.j0 k t320 t321 true a2_0 a2_1 a2_2 l2_3) else ((span_Norm.f t321).bind fun t329 => ((r11_Norm.f k t321).bind fun t332 => ((r11_Same.f k t329 t332).bind fun t335 => (if t335 = true then ((span_Union.f t321 t324).bind fun t336 => ((r11_Union.f k t321 t324).bind fun t339 => ((r11_Same.f k t336 t339).bind fun t342 => (if t342 = true then ((span_Meet.f t321 t324).bind fun t343 => ((r11_Meet.f k t321 t324).bind fun t346 => ((r11_Same.f k t343 t346).bind fun t349 => (if t349 = true then ((span_Minus.f t321 t324).bind fun t350 => ((r11_Minus.f k t321 t324).bind fun t353 => ((r11_Same.f k t350 t353).bind fun t356 => (l11_SpanMatchesReference.j0 k t320 t321 (!t356) a2_0 a2_1 a2_2 l2_3)))) else (l11_SpanMatchesReference.j0 k t320 t321 true a2_0 a2_1 a2_2 l2_3))))) else (l11_SpanMatchesReference.j0 k t320 t321 true a2_0 a2_1 a2_2 l2_3))))) else (l11_SpanMatchesReference.j0 k t320 t321 true a2_0 a2_1 a2_2 l2_3)))))))) = some r := H
 have A6 := Aside0.mk A60
 clear A60
 have HC7 := Aside0.mk H
 clear H
 go_enter Try.func3, Try.ntmps3
 go_upto_region 3 with (first | ((with_reducible refine gate_dst (N := 5) rfl ?_); refine box_event ?hg (N := 5) ?hd (cs := #[.int .i64 a2_0, .int .i64 a2_1, .int .i64 a2_2, .slice A2_3 l2_3.length c2_3]) (t := 27) ?hr ?_; (case hd => rfl); (case hg => rfl); (case hr => first | (go_simp; done) | (go_simp; rfl)); intro gb319 hg w8 hbox hb; have n0_ := Aside0.mk (below_step (bZ HB.out) hb); have n1_ := Aside0.mk (hbox); have n2_ := Aside0.mk ((by rw [hg]; exact (below_size (bZ HB.out)) : w.heap.size ≤ gb319)); have n3_ := Aside0.mk ((by rw [hg]; exact (below_size (bZ HB.out)) : w.heap.size ≤ gb319)); clear HB; have HB := n0_; have BK319 := n1_; have GW319 := n2_; have GE319 := n3_; clear n0_ n1_ n2_ n3_; clear hb hbox hg) | ((with_reducible refine gate_callee (f := 10) rfl ?_); refine goesL_ (some 11) rfl rfl Try.func10 (by kernel_rfl) rfl #[] rfl (by (try simp only [List.map_toArray, List.map_cons, List.map_nil]); first | done | rfl | (simp only [List.length_drop, List.length_take]; rfl)) ?_; (with_reducible refine (l11_sanity.calls k  t320 _ A4.out).mono ?_); rintro e w9 ⟨rfl, hb⟩; refine ⟨_, rfl, ?_⟩; have n0_ := Aside0.mk (blk_below (g := gb319) (o := .cells #[.int .i64 a2_0, .int .i64 a2_1, .int .i64 a2_2, .slice A2_3 l2_3.length c2_3] 27 (0, 0)) (by (with_reducible repeat (first | refine blk_drewN ?_ _ | refine blk_drew ?_ | refine blk_alloc ?_ _)); exact BK319.out) hb); have n1_ := Aside0.mk (below_step (by repeat (first | (with_reducible first | exact HB.out | apply below_alloc | apply pw_below_drewN | apply below_drew1 | refine below_set ?_ GE319.out) | exact HB.out)) hb); clear BK319; clear HB; have BK319 := n0_; have HB := n1_; clear n0_ n1_; (try clear hb); (try clear hb2); (try clear hk); (try clear hi)) | ((with_reducible refine gate_callee (f := 11) rfl ?_); refine goesL_ (some 13) rfl rfl Try.func11 (by kernel_rfl) rfl #[.slice A0 l0.length c0] rfl (by (try simp only [List.map_toArray, List.map_cons, List.map_nil]); first | done | rfl | (simp only [List.length_drop, List.length_take]; rfl)) ?_; (with_reducible refine (l11_short.calls _ _ l0 t321 _ ?side1 ?side2 A5.out).mono ?_); (case side1 => repeat (first | exact (Kd.C_below HR0.out HB.out) | (with_reducible refine Kd.C_alloc ?_ _) | (with_reducible refine Kd.C_drewN ?_ _) | (with_reducible refine Kd.C_drew ?_))); (case side2 => exact HC0.out); rintro e w10 ⟨v322, rfl, ho0, hb⟩; refine ⟨_, rfl, ?_⟩; have n0_ := Aside0.mk (Kd.R_lower ho0 (below_size (by repeat (first | (with_reducible first | exact HB.out | apply below_alloc | apply pw_below_drewN | apply below_drew1 | refine below_set ?_ GE319.out) | exact HB.out)))); have n1_ := Aside0.mk (blk_below (g := gb319) (o := .cells #[.int .i64 a2_0, .int .i64 a2_1, .int .i64 a2_2, .slice A2_3 l2_3.length c2_3] 27 (0, 0)) (by (with_reducible repeat (first | refine blk_drewN ?_ _ | refine blk_drew ?_ | refine blk_alloc ?_ _)); exact BK319.out) hb); have n2_ := Aside0.mk (below_step (by repeat (first | (with_reducible first | exact HB.out | apply below_alloc | apply pw_below_drewN | apply below_drew1 | refine below_set ?_ GE319.out) | exact HB.out)) hb); clear BK319; clear HB; have HO323 := n0_; have BK319 := n1_; have HB := n2_; clear n0_ n1_ n2_; (try clear hb); (try clear hb2); (try clear hk); (try clear hi); (try clear ho0)) | ((with_reducible refine gate_callee (f := 11) rfl ?_); refine goesL_ (some 15) rfl rfl Try.func11 (by kernel_rfl) rfl #[.slice A1 l1.length c1] rfl (by (try simp only [List.map_toArray, List.map_cons, List.map_nil]); first | done | rfl | (simp only [List.length_drop, List.length_take]; rfl)) ?_; (with_reducible refine (l11_short.calls _ _ l1 t324 _ ?side1 ?side2 A6.out).mono ?_); (case side1 => repeat (first | exact (Kd.C_below HR1.out HB.out) | (with_reducible refine Kd.C_alloc ?_ _) | (with_reducible refine Kd.C_drewN ?_ _) | (with_reducible refine Kd.C_drew ?_))); (case side2 => exact HC1.out); rintro e w11 ⟨v325, rfl, ho0, hb⟩; refine ⟨_, rfl, ?_⟩; have n0_ := Aside0.mk (Kd.R_elder' (rZ HO323.out) (Kd.R_base ho0) hb); have n1_ := Aside0.mk (Kd.R_lower (Kd.R_new' ho0 (Kd.R_lt (rZ HO323.out))) (below_size (by repeat (first | (with_reducible first | exact HB.out | apply below_alloc | apply pw_below_drewN | apply below_drew1 | refine below_set ?_ GE319.out) | exact HB.out)))); have n2_ := Aside0.mk (blk_below (g := gb319) (o := .cells #[.int .i64 a2_0, .int .i64 a2_1, .int .i64 a2_2, .slice A2_3 l2_3.length c2_3] 27 (0, 0)) (by (with_reducible repeat (first | refine blk_drewN ?_ _ | refine blk_drew ?_ | refine blk_alloc ?_ _)); exact BK319.out) hb); have n3_ := Aside0.mk (below_step (by repeat (first | (with_reducible first | exact HB.out | apply below_alloc | apply pw_below_drewN | apply below_drew1 | refine below_set ?_ GE319.out) | exact HB.out)) hb); clear HO323; clear BK319; clear HB; have HO323 := n0_; have HO326 := n1_; have BK319 := n2_; have HB := n3_; clear n0_ n1_ n2_ n3_; (try clear hb); (try clear hb2); (try clear hk); (try clear hi); (try clear ho0)))
 (try simp only [Act.put, List.setIfInBounds_toArray, List.set_cons_zero, List.set_cons_succ])
 go_cut [58] (fun v58 wc => ∃ (kq : Nat) (x58_6 : Bool), v58 = .bool x58_6 ∧ Aside0 (l11_SpanMatchesReference.j0 kq t320 t321 x58_6 a2_0 a2_1 a2_2 l2_3 = some r) ∧ Aside0 (kq ≤ k) ∧ Aside0 (Kd.R k24 24 wc w.heap.size (fun _ => True) v322 t321) ∧ Aside0 (wc.heap[gb319]? = some (.cells #[.int .i64 a2_0, .int .i64 a2_1, .int .i64 a2_2, (.slice A2_3 l2_3.length c2_3)] 27 (0, 0))) ∧ Aside0 (Below w.heap.size w wc))
 case first =>
  have H := HC7.out
  clear HC7
  replace H := Option.bind_eq_some_iff.mp H
  obtain ⟨t327, A120, H⟩ := H
  replace H : ((r11_Valid.f k t321).bind fun t328 => (if (t327 != t328) = true then (l11_SpanMatchesReference.j0 k t320 t321 true a2_0 a2_1 a2_2 l2_3) else ((span_Norm.f t321).bind fun t329 => ((r11_Norm.f k t321).bind fun t332 => ((r11_Same.f k t329 t332).bind fun t335 => (if t335 = true then ((span_Union.f t321 t324).bind fun t336 => ((r11_Union.f k t321 t324).bind fun t339 => ((r11_Same.f k t336 t339).bind fun t342 => (if t342 = true then ((span_Meet.f t321 t324).bind fun t343 => ((r11_Meet.f k t321 t324).bind fun t346 => ((r11_Same.f k t343 t346).bind fun t349 => (if t349 = true then ((span_Minus.f t321 t324).bind fun t350 => ((r11_Minus.f k t321 t324).bind fun t353 => ((r11_Same.f k t350 t353).bind fun t356 => (l11_SpanMatchesReference.j0 k t320 t321 (!t356) a2_0 a2_1 a2_2 l2_3)))) else (l11_SpanMatchesReference.j0 k t320 t321 true a2_0 a2_1 a2_2 l2_3))))) else (l11_SpanMatchesReference.j0 k t320 t321 true a2_0 a2_1 a2_2 l2_3))))) else (l11_SpanMatchesReference.j0 k t320 t321 true a2_0 a2_1 a2_2 l2_3))))))) = some r := H
  have A12 := Aside0.mk A120
  clear A120
  replace H := Option.bind_eq_some_iff.mp H
  obtain ⟨t328, A130, H⟩ := H
  replace H : (if (t327 != t328) = true then (l11_SpanMatchesReference.j0 k t320 t321 true a2_0 a2_1 a2_2 l2_3) else ((span_Norm.f t321).bind fun t329 => ((r11_Norm.f k t321).bind fun t332 => ((r11_Same.f k t329 t332).bind fun t335 => (if t335 = true then ((span_Union.f t321 t324).bind fun t336 => ((r11_Union.f k t321 t324).bind fun t339 => ((r11_Same.f k t336 t339).bind fun t342 => (if t342 = true then ((span_Meet.f t321 t324).bind fun t343 => ((r11_Meet.f k t321 t324).bind fun t346 => ((r11_Same.f k t343 t346).bind fun t349 => (if t349 = true then ((span_Minus.f t321 t324).bind fun t350 => ((r11_Minus.f k t321 t324).bind fun t353 => ((r11_Same.f k t350 t353).bind fun t356 => (l11_SpanMatchesReference.j0 k t320 t321 (!t356) a2_0 a2_1 a2_2 l2_3)))) else (l11_SpanMatchesReference.j0 k t320 t321 true a2_0 a2_1 a2_2 l2_3))))) else (l11_SpanMatchesReference.j0 k t320 t321 true a2_0 a2_1 a2_2 l2_3))))) else (l11_SpanMatchesReference.j0 k t320 t321 true a2_0 a2_1 a2_2 l2_3)))))) = some r := H
  have A13 := Aside0.mk A130
  clear A130
  by_cases c14 : (t327 != t328) = true
  ·rw [if_pos c14] at H
   have c14b0 : (t327 != t328) = true := c14
   (try (have c14b1 : decide (t327 = t328) = false := by simpa using c14))
   (try (have c14b2 : (t327 == t328) = false := by simpa using c14))
   (try (have c14b3 : ¬ (t327 = t328) := by simpa using c14))
   clear c14
   (first | rw [c14b0] | (simp only [i64_w, i32_w]; rw [c14b0]) | skip)
   have H' := Aside0.mk H
   clear H
   obtain ⟨Ao15, co15, eo15⟩ := Kd.R_slice HO323.out
   subst eo15
   go_wp2_with (first | ((with_reducible refine gate_callee (f := 12) rfl ?_); refine goesL_ (some 17) rfl rfl Try.func12 (by kernel_rfl) rfl #[.slice Ao15 t321.length co15] rfl (by (try simp only [List.map_toArray, List.map_cons, List.map_nil]); first | done | rfl | (simp only [List.length_drop, List.length_take]; rfl)) ?_; (with_reducible refine (span_Valid.calls k _ _ t321 t327 _ ?side1 ?side2 A12.out).mono ?_); (case side1 => repeat (first | exact (Kd.R_reads' HO323.out).2.2 | (with_reducible refine Kd.C_alloc ?_ _) | (with_reducible refine Kd.C_drewN ?_ _) | (with_reducible refine Kd.C_drew ?_))); (case side2 => exact (Kd.R_reads' HO323.out).2.1); rintro e w16 ⟨rfl, hb⟩; refine ⟨_, rfl, ?_⟩; have n0_ := Aside0.mk (Kd.R_below (rZ HO323.out) hb); have n1_ := Aside0.mk (Kd.R_below (rZ HO326.out) hb); have n2_ := Aside0.mk (blk_below (g := gb319) (o := .cells #[.int .i64 a2_0, .int .i64 a2_1, .int .i64 a2_2, .slice A2_3 l2_3.length c2_3] 27 (0, 0)) (by (with_reducible repeat (first | refine blk_drewN ?_ _ | refine blk_drew ?_ | refine blk_alloc ?_ _)); exact BK319.out) hb); have n3_ := Aside0.mk (below_step (by repeat (first | (with_reducible first | exact HB.out | apply below_alloc | apply pw_below_drewN | apply below_drew1 | refine below_set ?_ GE319.out) | exact HB.out)) hb); clear HO323; clear HO326; clear BK319; clear HB; have HO323 := n0_; have HO326 := n1_; have BK319 := n2_; have HB := n3_; clear n0_ n1_ n2_ n3_; (try clear hb); (try clear hb2); (try clear hk); (try clear hi)) | ((with_reducible refine gate_callee (f := 13) rfl ?_); refine goesL_ (some 19) rfl rfl Try.func13 (by kernel_rfl) rfl #[.slice Ao15 t321.length co15] rfl (by (try simp only [List.map_toArray, List.map_cons, List.map_nil]); first | done | rfl | (simp only [List.length_drop, List.length_take]; rfl)) ?_; (with_reducible refine (r11_Valid.calls k _ _ t321 t328 _ ?side1 ?side2 A13.out).mono ?_); (case side1 => repeat (first | exact (Kd.R_reads' HO323.out).2.2 | (with_reducible refine Kd.C_alloc ?_ _) | (with_reducible refine Kd.C_drewN ?_ _) | (with_reducible refine Kd.C_drew ?_))); (case side2 => exact (Kd.R_reads' HO323.out).2.1); rintro e w' ⟨rfl, ⟨nd, rfl⟩⟩; refine ⟨_, rfl, ?_⟩))
   go_meet
   case rel => exact ⟨_, (true), (by first | rfl | (simp; done) | (simp [*]; done)), H', ⟨by first | omega | exact Nat.le_refl _⟩, ⟨by (with_reducible repeat (first | apply Kd.R_alloc | apply Kd.R_drewN | apply Kd.R_drew)); exact Kd.R_mono HO323.out (fun _ hk => trivial)⟩, ⟨by (with_reducible repeat (first | refine blk_drewN ?_ _ | refine blk_drew ?_ | refine blk_alloc ?_ _)); exact BK319.out⟩, ⟨by repeat (first | (with_reducible first | exact HB.out | apply below_alloc | apply pw_below_drewN | apply below_drew1 | refine below_set ?_ GE319.out) | exact HB.out)⟩⟩
  ·rw [if_neg c14] at H
   have c14b0 : (t327 != t328) = false := by simpa using c14
   (try (have c14b1 : decide (t327 = t328) = true := by simpa using c14))
   (try (have c14b2 : (t327 == t328) = true := by simpa using c14))
   clear c14
   (first | rw [c14b0] | (simp only [i64_w, i32_w]; rw [c14b0]) | skip)
   replace H := Option.bind_eq_some_iff.mp H
   obtain ⟨t329, A170, H⟩ := H
   replace H : ((r11_Norm.f k t321).bind fun t332 => ((r11_Same.f k t329 t332).bind fun t335 => (if t335 = true then ((span_Union.f t321 t324).bind fun t336 => ((r11_Union.f k t321 t324).bind fun t339 => ((r11_Same.f k t336 t339).bind fun t342 => (if t342 = true then ((span_Meet.f t321 t324).bind fun t343 => ((r11_Meet.f k t321 t324).bind fun t346 => ((r11_Same.f k t343 t346).bind fun t349 => (if t349 = true then ((span_Minus.f t321 t324).bind fun t350 => ((r11_Minus.f k t321 t324).bind fun t353 => ((r11_Same.f k t350 t353).bind fun t356 => (l11_SpanMatchesReference.j0 k t320 t321 (!t356) a2_0 a2_1 a2_2 l2_3)))) else (l11_SpanMatchesReference.j0 k t320 t321 true a2_0 a2_1 a2_2 l2_3))))) else (l11_SpanMatchesReference.j0 k t320 t321 true a2_0 a2_1 a2_2 l2_3))))) else (l11_SpanMatchesReference.j0 k t320 t321 true a2_0 a2_1 a2_2 l2_3)))) = some r := H
   have A17 := Aside0.mk A170
   clear A170
   replace H := Option.bind_eq_some_iff.mp H
   obtain ⟨t332, A180, H⟩ := H
   replace H : ((r11_Same.f k t329 t332).bind fun t335 => (if t335 = true then ((span_Union.f t321 t324).bind fun t336 => ((r11_Union.f k t321 t324).bind fun t339 => ((r11_Same.f k t336 t339).bind fun t342 => (if t342 = true then ((span_Meet.f t321 t324).bind fun t343 => ((r11_Meet.f k t321 t324).bind fun t346 => ((r11_Same.f k t343 t346).bind fun t349 => (if t349 = true then ((span_Minus.f t321 t324).bind fun t350 => ((r11_Minus.f k t321 t324).bind fun t353 => ((r11_Same.f k t350 t353).bind fun t356 => (l11_SpanMatchesReference.j0 k t320 t321 (!t356) a2_0 a2_1 a2_2 l2_3)))) else (l11_SpanMatchesReference.j0 k t320 t321 true a2_0 a2_1 a2_2 l2_3))))) else (l11_SpanMatchesReference.j0 k t320 t321 true a2_0 a2_1 a2_2 l2_3))))) else (l11_SpanMatchesReference.j0 k t320 t321 true a2_0 a2_1 a2_2 l2_3))) = some r := H
   have A18 := Aside0.mk A180
   clear A180
   replace H := Option.bind_eq_some_iff.mp H
   obtain ⟨t335, A190, H⟩ := H
   replace H : (if t335 = true then ((span_Union.f t321 t324).bind fun t336 => ((r11_Union.f k t321 t324).bind fun t339 => ((r11_Same.f k t336 t339).bind fun t342 => (if t342 = true then ((span_Meet.f t321 t324).bind fun t343 => ((r11_Meet.f k t321 t324).bind fun t346 => ((r11_Same.f k t343 t346).bind fun t349 => (if t349 = true then ((span_Minus.f t321 t324).bind fun t350 => ((r11_Minus.f k t321 t324).bind fun t353 => ((r11_Same.f k t350 t353).bind fun t356 => (l11_SpanMatchesReference.j0 k t320 t321 (!t356) a2_0 a2_1 a2_2 l2_3)))) else (l11_SpanMatchesReference.j0 k t320 t321 true a2_0 a2_1 a2_2 l2_3))))) else (l11_SpanMatchesReference.j0 k t320 t321 true a2_0 a2_1 a2_2 l2_3))))) else (l11_SpanMatchesReference.j0 k t320 t321 true a2_0 a2_1 a2_2 l2_3)) = some r := H
   have A19 := Aside0.mk A190
   clear A190
   by_cases c20 : t335 = true
   ·subst c20
    have H1 : ((span_Union.f t321 t324).bind fun t336 => ((r11_Union.f k t321 t324).bind fun t339 => ((r11_Same.f k t336 t339).bind fun t342 => (if t342 = true then ((span_Meet.f t321 t324).bind fun t343 => ((r11_Meet.f k t321 t324).bind fun t346 => ((r11_Same.f k t343 t346).bind fun t349 => (if t349 = true then ((span_Minus.f t321 t324).bind fun t350 => ((r11_Minus.f k t321 t324).bind fun t353 => ((r11_Same.f k t350 t353).bind fun t356 => (l11_SpanMatchesReference.j0 k t320 t321 (!t356) a2_0 a2_1 a2_2 l2_3)))) else (l11_SpanMatchesReference.j0 k t320 t321 true a2_0 a2_1 a2_2 l2_3))))) else (l11_SpanMatchesReference.j0 k t320 t321 true a2_0 a2_1 a2_2 l2_3))))) = some r := by rw [if_pos rfl] at H; exact H
    clear H
    have H := H1
    clear H1
    replace H := Option.bind_eq_some_iff.mp H
    obtain ⟨t336, A210, H⟩ := H
    replace H : ((r11_Union.f k t321 t324).bind fun t339 => ((r11_Same.f k t336 t339).bind fun t342 => (if t342 = true then ((span_Meet.f t321 t324).bind fun t343 => ((r11_Meet.f k t321 t324).bind fun t346 => ((r11_Same.f k t343 t346).bind fun t349 => (if t349 = true then ((span_Minus.f t321 t324).bind fun t350 => ((r11_Minus.f k t321 t324).bind fun t353 => ((r11_Same.f k t350 t353).bind fun t356 => (l11_SpanMatchesReference.j0 k t320 t321 (!t356) a2_0 a2_1 a2_2 l2_3)))) else (l11_SpanMatchesReference.j0 k t320 t321 true a2_0 a2_1 a2_2 l2_3))))) else (l11_SpanMatchesReference.j0 k t320 t321 true a2_0 a2_1 a2_2 l2_3)))) = some r := H
    have A21 := Aside0.mk A210
    clear A210
    replace H := Option.bind_eq_some_iff.mp H
    obtain ⟨t339, A220, H⟩ := H
    replace H : ((r11_Same.f k t336 t339).bind fun t342 => (if t342 = true then ((span_Meet.f t321 t324).bind fun t343 => ((r11_Meet.f k t321 t324).bind fun t346 => ((r11_Same.f k t343 t346).bind fun t349 => (if t349 = true then ((span_Minus.f t321 t324).bind fun t350 => ((r11_Minus.f k t321 t324).bind fun t353 => ((r11_Same.f k t350 t353).bind fun t356 => (l11_SpanMatchesReference.j0 k t320 t321 (!t356) a2_0 a2_1 a2_2 l2_3)))) else (l11_SpanMatchesReference.j0 k t320 t321 true a2_0 a2_1 a2_2 l2_3))))) else (l11_SpanMatchesReference.j0 k t320 t321 true a2_0 a2_1 a2_2 l2_3))) = some r := H
    have A22 := Aside0.mk A220
    clear A220
    replace H := Option.bind_eq_some_iff.mp H
    obtain ⟨t342, A230, H⟩ := H
    replace H : (if t342 = true then ((span_Meet.f t321 t324).bind fun t343 => ((r11_Meet.f k t321 t324).bind fun t346 => ((r11_Same.f k t343 t346).bind fun t349 => (if t349 = true then ((span_Minus.f t321 t324).bind fun t350 => ((r11_Minus.f k t321 t324).bind fun t353 => ((r11_Same.f k t350 t353).bind fun t356 => (l11_SpanMatchesReference.j0 k t320 t321 (!t356) a2_0 a2_1 a2_2 l2_3)))) else (l11_SpanMatchesReference.j0 k t320 t321 true a2_0 a2_1 a2_2 l2_3))))) else (l11_SpanMatchesReference.j0 k t320 t321 true a2_0 a2_1 a2_2 l2_3)) = some r := H
    have A23 := Aside0.mk A230
    clear A230
    by_cases c24 : t342 = true
    ·subst c24
     have H1 : ((span_Meet.f t321 t324).bind fun t343 => ((r11_Meet.f k t321 t324).bind fun t346 => ((r11_Same.f k t343 t346).bind fun t349 => (if t349 = true then ((span_Minus.f t321 t324).bind fun t350 => ((r11_Minus.f k t321 t324).bind fun t353 => ((r11_Same.f k t350 t353).bind fun t356 => (l11_SpanMatchesReference.j0 k t320 t321 (!t356) a2_0 a2_1 a2_2 l2_3)))) else (l11_SpanMatchesReference.j0 k t320 t321 true a2_0 a2_1 a2_2 l2_3))))) = some r := by rw [if_pos rfl] at H; exact H
     clear H
     have H := H1
     clear H1
     replace H := Option.bind_eq_some_iff.mp H
     obtain ⟨t343, A250, H⟩ := H
     replace H : ((r11_Meet.f k t321 t324).bind fun t346 => ((r11_Same.f k t343 t346).bind fun t349 => (if t349 = true then ((span_Minus.f t321 t324).bind fun t350 => ((r11_Minus.f k t321 t324).bind fun t353 => ((r11_Same.f k t350 t353).bind fun t356 => (l11_SpanMatchesReference.j0 k t320 t321 (!t356) a2_0 a2_1 a2_2 l2_3)))) else (l11_SpanMatchesReference.j0 k t320 t321 true a2_0 a2_1 a2_2 l2_3)))) = some r := H
     have A25 := Aside0.mk A250
     clear A250
     replace H := Option.bind_eq_some_iff.mp H
     obtain ⟨t346, A260, H⟩ := H
     replace H : ((r11_Same.f k t343 t346).bind fun t349 => (if t349 = true then ((span_Minus.f t321 t324).bind fun t350 => ((r11_Minus.f k t321 t324).bind fun t353 => ((r11_Same.f k t350 t353).bind fun t356 => (l11_SpanMatchesReference.j0 k t320 t321 (!t356) a2_0 a2_1 a2_2 l2_3)))) else (l11_SpanMatchesReference.j0 k t320 t321 true a2_0 a2_1 a2_2 l2_3))) = some r := H
     have A26 := Aside0.mk A260
     clear A260
     replace H := Option.bind_eq_some_iff.mp H
     obtain ⟨t349, A270, H⟩ := H
     replace H : (if t349 = true then ((span_Minus.f t321 t324).bind fun t350 => ((r11_Minus.f k t321 t324).bind fun t353 => ((r11_Same.f k t350 t353).bind fun t356 => (l11_SpanMatchesReference.j0 k t320 t321 (!t356) a2_0 a2_1 a2_2 l2_3)))) else (l11_SpanMatchesReference.j0 k t320 t321 true a2_0 a2_1 a2_2 l2_3)) = some r := H
     have A27 := Aside0.mk A270
     clear A270
     by_cases c28 : t349 = true
     ·subst c28
      have H1 : ((span_Minus.f t321 t324).bind fun t350 => ((r11_Minus.f k t321 t324).bind fun t353 => ((r11_Same.f k t350 t353).bind fun t356 => (l11_SpanMatchesReference.j0 k t320 t321 (!t356) a2_0 a2_1 a2_2 l2_3)))) = some r := by rw [if_pos rfl] at H; exact H
      clear H
      have H := H1
      clear H1
      replace H := Option.bind_eq_some_iff.mp H
      obtain ⟨t350, A290, H⟩ := H
      replace H : ((r11_Minus.f k t321 t324).bind fun t353 => ((r11_Same.f k t350 t353).bind fun t356 => (l11_SpanMatchesReference.j0 k t320 t321 (!t356) a2_0 a2_1 a2_2 l2_3))) = some r := H
      have A29 := Aside0.mk A290
      clear A290
      replace H := Option.bind_eq_some_iff.mp H
      obtain ⟨t353, A300, H⟩ := H
      replace H : ((r11_Same.f k t350 t353).bind fun t356 => (l11_SpanMatchesReference.j0 k t320 t321 (!t356) a2_0 a2_1 a2_2 l2_3)) = some r := H
      have A30 := Aside0.mk A300
      clear A300
      replace H := Option.bind_eq_some_iff.mp H
      obtain ⟨t356, A310, H⟩ := H
      replace H : (l11_SpanMatchesReference.j0 k t320 t321 (!t356) a2_0 a2_1 a2_2 l2_3) = some r := H
      have A31 := Aside0.mk A310
      clear A310
      have H' := Aside0.mk H
      clear H
      obtain ⟨Ao32, co32, eo32⟩ := Kd.R_slice HO323.out
      subst eo32
      go_wp2_with (first | ((with_reducible refine gate_callee (f := 12) rfl ?_); refine goesL_ (some 17) rfl rfl Try.func12 (by kernel_rfl) rfl #[.slice Ao32 t321.length co32] rfl (by (try simp only [List.map_toArray, List.map_cons, List.map_nil]); first | done | rfl | (simp only [List.length_drop, List.length_take]; rfl)) ?_; (with_reducible refine (span_Valid.calls k _ _ t321 t327 _ ?side1 ?side2 A12.out).mono ?_); (case side1 => repeat (first | exact (Kd.R_reads' HO323.out).2.2 | (with_reducible refine Kd.C_alloc ?_ _) | (with_reducible refine Kd.C_drewN ?_ _) | (with_reducible refine Kd.C_drew ?_))); (case side2 => exact (Kd.R_reads' HO323.out).2.1); rintro e w33 ⟨rfl, hb⟩; refine ⟨_, rfl, ?_⟩; have n0_ := Aside0.mk (Kd.R_below (rZ HO323.out) hb); have n1_ := Aside0.mk (Kd.R_below (rZ HO326.out) hb); have n2_ := Aside0.mk (blk_below (g := gb319) (o := .cells #[.int .i64 a2_0, .int .i64 a2_1, .int .i64 a2_2, .slice A2_3 l2_3.length c2_3] 27 (0, 0)) (by (with_reducible repeat (first | refine blk_drewN ?_ _ | refine blk_drew ?_ | refine blk_alloc ?_ _)); exact BK319.out) hb); have n3_ := Aside0.mk (below_step (by repeat (first | (with_reducible first | exact HB.out | apply below_alloc | apply pw_below_drewN | apply below_drew1 | refine below_set ?_ GE319.out) | exact HB.out)) hb); clear HO323; clear HO326; clear BK319; clear HB; have HO323 := n0_; have HO326 := n1_; have BK319 := n2_; have HB := n3_; clear n0_ n1_ n2_ n3_; (try clear hb); (try clear hb2); (try clear hk); (try clear hi)) | ((with_reducible refine gate_callee (f := 13) rfl ?_); refine goesL_ (some 19) rfl rfl Try.func13 (by kernel_rfl) rfl #[.slice Ao32 t321.length co32] rfl (by (try simp only [List.map_toArray, List.map_cons, List.map_nil]); first | done | rfl | (simp only [List.length_drop, List.length_take]; rfl)) ?_; (with_reducible refine (r11_Valid.calls k _ _ t321 t328 _ ?side1 ?side2 A13.out).mono ?_); (case side1 => repeat (first | exact (Kd.R_reads' HO323.out).2.2 | (with_reducible refine Kd.C_alloc ?_ _) | (with_reducible refine Kd.C_drewN ?_ _) | (with_reducible refine Kd.C_drew ?_))); (case side2 => exact (Kd.R_reads' HO323.out).2.1); rintro e w' ⟨rfl, ⟨nd, rfl⟩⟩; refine ⟨_, rfl, ?_⟩) | (go_at_call 15; (with_reducible refine (span_Norm.calls _ _ t321 t329 _ ?side1 ?side2 A17.out).mono ?_); (case side1 => repeat (first | exact (Kd.R_reads' HO323.out).2.2 | (with_reducible refine Kd.C_alloc ?_ _) | (with_reducible refine Kd.C_drewN ?_ _) | (with_reducible refine Kd.C_drew ?_))); (case side2 => exact (Kd.R_reads' HO323.out).2.1); rintro e w34 ⟨v330, rfl, ho0, hb⟩; have n0_ := Aside0.mk (Kd.R_elder' (rZ HO323.out) (Kd.R_base ho0) hb); have n1_ := Aside0.mk (Kd.R_elder' (rZ HO326.out) (Kd.R_base ho0) hb); have n2_ := Aside0.mk (Kd.R_lower (Kd.R_new' (Kd.R_new' ho0 (Kd.R_lt (rZ HO323.out))) (Kd.R_lt (rZ HO326.out))) (below_size (by repeat (first | (with_reducible first | exact HB.out | apply below_alloc | apply pw_below_drewN | apply below_drew1 | refine below_set ?_ GE319.out) | exact HB.out)))); have n3_ := Aside0.mk (blk_below (g := gb319) (o := .cells #[.int .i64 a2_0, .int .i64 a2_1, .int .i64 a2_2, .slice A2_3 l2_3.length c2_3] 27 (0, 0)) (by (with_reducible repeat (first | refine blk_drewN ?_ _ | refine blk_drew ?_ | refine blk_alloc ?_ _)); exact BK319.out) hb); have n4_ := Aside0.mk (below_step (by repeat (first | (with_reducible first | exact HB.out | apply below_alloc | apply pw_below_drewN | apply below_drew1 | refine below_set ?_ GE319.out) | exact HB.out)) hb); clear HO323; clear HO326; clear BK319; clear HB; have HO323 := n0_; have HO326 := n1_; have HO331 := n2_; have BK319 := n3_; have HB := n4_; clear n0_ n1_ n2_ n3_ n4_; (try clear hb); (try clear hb2); (try clear hk); (try clear hi); (try clear ho0)) | (go_at_call 16; (with_reducible refine (r11_Norm.calls k _ _ t321 t332 _ ?side1 ?side2 A18.out).mono ?_); (case side1 => repeat (first | exact (Kd.R_reads' HO323.out).2.2 | (with_reducible refine Kd.C_alloc ?_ _) | (with_reducible refine Kd.C_drewN ?_ _) | (with_reducible refine Kd.C_drew ?_))); (case side2 => exact (Kd.R_reads' HO323.out).2.1); rintro e w35 ⟨v333, rfl, ho0, hb⟩; have n0_ := Aside0.mk (Kd.R_elder' (rZ HO323.out) (Kd.R_base ho0) hb); have n1_ := Aside0.mk (Kd.R_elder' (rZ HO326.out) (Kd.R_base ho0) hb); have n2_ := Aside0.mk (Kd.R_elder' (rZ HO331.out) (Kd.R_base ho0) hb); have n3_ := Aside0.mk (Kd.R_lower (Kd.R_new' (Kd.R_new' (Kd.R_new' ho0 (Kd.R_lt (rZ HO323.out))) (Kd.R_lt (rZ HO326.out))) (Kd.R_lt (rZ HO331.out))) (below_size (by repeat (first | (with_reducible first | exact HB.out | apply below_alloc | apply pw_below_drewN | apply below_drew1 | refine below_set ?_ GE319.out) | exact HB.out)))); have n4_ := Aside0.mk (blk_below (g := gb319) (o := .cells #[.int .i64 a2_0, .int .i64 a2_1, .int .i64 a2_2, .slice A2_3 l2_3.length c2_3] 27 (0, 0)) (by (with_reducible repeat (first | refine blk_drewN ?_ _ | refine blk_drew ?_ | refine blk_alloc ?_ _)); exact BK319.out) hb); have n5_ := Aside0.mk (below_step (by repeat (first | (with_reducible first | exact HB.out | apply below_alloc | apply pw_below_drewN | apply below_drew1 | refine below_set ?_ GE319.out) | exact HB.out)) hb); clear HO323; clear HO326; clear HO331; clear BK319; clear HB; have HO323 := n0_; have HO326 := n1_; have HO331 := n2_; have HO334 := n3_; have BK319 := n4_; have HB := n5_; clear n0_ n1_ n2_ n3_ n4_ n5_; (try clear hb); (try clear hb2); (try clear hk); (try clear hi); (try clear ho0); obtain ⟨Ao36, co36, eo36⟩ := Kd.R_slice HO331.out; subst eo36; obtain ⟨Ao37, co37, eo37⟩ := Kd.R_slice HO334.out; subst eo37) | (go_at_call 14; (with_reducible refine (r11_Same.calls k _ _ t329 _ _ t332 true _ ?side1 ?side2 ?side3 ?side4 A19.out).mono ?_); (case side1 => repeat (first | exact (Kd.R_reads' HO331.out).2.2 | (with_reducible refine Kd.C_alloc ?_ _) | (with_reducible refine Kd.C_drewN ?_ _) | (with_reducible refine Kd.C_drew ?_))); (case side2 => exact (Kd.R_reads' HO331.out).2.1); (case side3 => repeat (first | exact (Kd.R_reads' HO334.out).2.2 | (with_reducible refine Kd.C_alloc ?_ _) | (with_reducible refine Kd.C_drewN ?_ _) | (with_reducible refine Kd.C_drew ?_))); (case side4 => exact (Kd.R_reads' HO334.out).2.1); rintro e w' ⟨rfl, ⟨nd, rfl⟩⟩; obtain ⟨Ao38, co38, eo38⟩ := Kd.R_slice HO326.out; subst eo38) | (go_at_call 17; (with_reducible refine (span_Union.calls _ _ t321 _ _ t324 t336 _ ?side1 ?side2 ?side3 ?side4 A21.out).mono ?_); (case side1 => repeat (first | exact (Kd.R_reads' HO323.out).2.2 | (with_reducible refine Kd.C_alloc ?_ _) | (with_reducible refine Kd.C_drewN ?_ _) | (with_reducible refine Kd.C_drew ?_))); (case side2 => exact (Kd.R_reads' HO323.out).2.1); (case side3 => repeat (first | exact (Kd.R_reads' HO326.out).2.2 | (with_reducible refine Kd.C_alloc ?_ _) | (with_reducible refine Kd.C_drewN ?_ _) | (with_reducible refine Kd.C_drew ?_))); (case side4 => exact (Kd.R_reads' HO326.out).2.1); rintro e w39 ⟨v337, rfl, ho0, hb⟩; have n0_ := Aside0.mk (Kd.R_elder' (rZ HO323.out) (Kd.R_base ho0) hb); have n1_ := Aside0.mk (Kd.R_elder' (rZ HO326.out) (Kd.R_base ho0) hb); have n2_ := Aside0.mk (Kd.R_elder' (rZ HO331.out) (Kd.R_base ho0) hb); have n3_ := Aside0.mk (Kd.R_elder' (rZ HO334.out) (Kd.R_base ho0) hb); have n4_ := Aside0.mk (Kd.R_lower (Kd.R_new' (Kd.R_new' (Kd.R_new' (Kd.R_new' ho0 (Kd.R_lt (rZ HO323.out))) (Kd.R_lt (rZ HO326.out))) (Kd.R_lt (rZ HO331.out))) (Kd.R_lt (rZ HO334.out))) (below_size (by repeat (first | (with_reducible first | exact HB.out | apply below_alloc | apply pw_below_drewN | apply below_drew1 | refine below_set ?_ GE319.out) | exact HB.out)))); have n5_ := Aside0.mk (blk_below (g := gb319) (o := .cells #[.int .i64 a2_0, .int .i64 a2_1, .int .i64 a2_2, .slice A2_3 l2_3.length c2_3] 27 (0, 0)) (by (with_reducible repeat (first | refine blk_drewN ?_ _ | refine blk_drew ?_ | refine blk_alloc ?_ _)); exact BK319.out) hb); have n6_ := Aside0.mk (below_step (by repeat (first | (with_reducible first | exact HB.out | apply below_alloc | apply pw_below_drewN | apply below_drew1 | refine below_set ?_ GE319.out) | exact HB.out)) hb); clear HO323; clear HO326; clear HO331; clear HO334; clear BK319; clear HB; have HO323 := n0_; have HO326 := n1_; have HO331 := n2_; have HO334 := n3_; have HO338 := n4_; have BK319 := n5_; have HB := n6_; clear n0_ n1_ n2_ n3_ n4_ n5_ n6_; (try clear hb); (try clear hb2); (try clear hk); (try clear hi); (try clear ho0)) | (go_at_call 18; (with_reducible refine (r11_Union.calls k _ _ t321 _ _ t324 t339 _ ?side1 ?side2 ?side3 ?side4 A22.out).mono ?_); (case side1 => repeat (first | exact (Kd.R_reads' HO323.out).2.2 | (with_reducible refine Kd.C_alloc ?_ _) | (with_reducible refine Kd.C_drewN ?_ _) | (with_reducible refine Kd.C_drew ?_))); (case side2 => exact (Kd.R_reads' HO323.out).2.1); (case side3 => repeat (first | exact (Kd.R_reads' HO326.out).2.2 | (with_reducible refine Kd.C_alloc ?_ _) | (with_reducible refine Kd.C_drewN ?_ _) | (with_reducible refine Kd.C_drew ?_))); (case side4 => exact (Kd.R_reads' HO326.out).2.1); rintro e w40 ⟨v340, rfl, ho0, hb⟩; have n0_ := Aside0.mk (Kd.R_elder' (rZ HO323.out) (Kd.R_base ho0) hb); have n1_ := Aside0.mk (Kd.R_elder' (rZ HO326.out) (Kd.R_base ho0) hb); have n2_ := Aside0.mk (Kd.R_elder' (rZ HO331.out) (Kd.R_base ho0) hb); have n3_ := Aside0.mk (Kd.R_elder' (rZ HO334.out) (Kd.R_base ho0) hb); have n4_ := Aside0.mk (Kd.R_elder' (rZ HO338.out) (Kd.R_base ho0) hb); have n5_ := Aside0.mk (Kd.R_lower (Kd.R_new' (Kd.R_new' (Kd.R_new' (Kd.R_new' (Kd.R_new' ho0 (Kd.R_lt (rZ HO323.out))) (Kd.R_lt (rZ HO326.out))) (Kd.R_lt (rZ HO331.out))) (Kd.R_lt (rZ HO334.out))) (Kd.R_lt (rZ HO338.out))) (below_size (by repeat (first | (with_reducible first | exact HB.out | apply below_alloc | apply pw_below_drewN | apply below_drew1 | refine below_set ?_ GE319.out) | exact HB.out)))); have n6_ := Aside0.mk (blk_below (g := gb319) (o := .cells #[.int .i64 a2_0, .int .i64 a2_1, .int .i64 a2_2, .slice A2_3 l2_3.length c2_3] 27 (0, 0)) (by (with_reducible repeat (first | refine blk_drewN ?_ _ | refine blk_drew ?_ | refine blk_alloc ?_ _)); exact BK319.out) hb); have n7_ := Aside0.mk (below_step (by repeat (first | (with_reducible first | exact HB.out | apply below_alloc | apply pw_below_drewN | apply below_drew1 | refine below_set ?_ GE319.out) | exact HB.out)) hb); clear HO323; clear HO326; clear HO331; clear HO334; clear HO338; clear BK319; clear HB; have HO323 := n0_; have HO326 := n1_; have HO331 := n2_; have HO334 := n3_; have HO338 := n4_; have HO341 := n5_; have BK319 := n6_; have HB := n7_; clear n0_ n1_ n2_ n3_ n4_ n5_ n6_ n7_; (try clear hb); (try clear hb2); (try clear hk); (try clear hi); (try clear ho0); obtain ⟨Ao41, co41, eo41⟩ := Kd.R_slice HO338.out; subst eo41; obtain ⟨Ao42, co42, eo42⟩ := Kd.R_slice HO341.out; subst eo42) | (go_at_call 14; (with_reducible refine (r11_Same.calls k _ _ t336 _ _ t339 true _ ?side1 ?side2 ?side3 ?side4 A23.out).mono ?_); (case side1 => repeat (first | exact (Kd.R_reads' HO338.out).2.2 | (with_reducible refine Kd.C_alloc ?_ _) | (with_reducible refine Kd.C_drewN ?_ _) | (with_reducible refine Kd.C_drew ?_))); (case side2 => exact (Kd.R_reads' HO338.out).2.1); (case side3 => repeat (first | exact (Kd.R_reads' HO341.out).2.2 | (with_reducible refine Kd.C_alloc ?_ _) | (with_reducible refine Kd.C_drewN ?_ _) | (with_reducible refine Kd.C_drew ?_))); (case side4 => exact (Kd.R_reads' HO341.out).2.1); rintro e w' ⟨rfl, ⟨nd, rfl⟩⟩) | (go_at_call 19; (with_reducible refine (span_Meet.calls _ _ t321 _ _ t324 t343 _ ?side1 ?side2 ?side3 ?side4 A25.out).mono ?_); (case side1 => repeat (first | exact (Kd.R_reads' HO323.out).2.2 | (with_reducible refine Kd.C_alloc ?_ _) | (with_reducible refine Kd.C_drewN ?_ _) | (with_reducible refine Kd.C_drew ?_))); (case side2 => exact (Kd.R_reads' HO323.out).2.1); (case side3 => repeat (first | exact (Kd.R_reads' HO326.out).2.2 | (with_reducible refine Kd.C_alloc ?_ _) | (with_reducible refine Kd.C_drewN ?_ _) | (with_reducible refine Kd.C_drew ?_))); (case side4 => exact (Kd.R_reads' HO326.out).2.1); rintro e w43 ⟨v344, rfl, ho0, hb⟩; have n0_ := Aside0.mk (Kd.R_elder' (rZ HO323.out) (Kd.R_base ho0) hb); have n1_ := Aside0.mk (Kd.R_elder' (rZ HO326.out) (Kd.R_base ho0) hb); have n2_ := Aside0.mk (Kd.R_elder' (rZ HO331.out) (Kd.R_base ho0) hb); have n3_ := Aside0.mk (Kd.R_elder' (rZ HO334.out) (Kd.R_base ho0) hb); have n4_ := Aside0.mk (Kd.R_elder' (rZ HO338.out) (Kd.R_base ho0) hb); have n5_ := Aside0.mk (Kd.R_elder' (rZ HO341.out) (Kd.R_base ho0) hb); have n6_ := Aside0.mk (Kd.R_lower (Kd.R_new' (Kd.R_new' (Kd.R_new' (Kd.R_new' (Kd.R_new' (Kd.R_new' ho0 (Kd.R_lt (rZ HO323.out))) (Kd.R_lt (rZ HO326.out))) (Kd.R_lt (rZ HO331.out))) (Kd.R_lt (rZ HO334.out))) (Kd.R_lt (rZ HO338.out))) (Kd.R_lt (rZ HO341.out))) (below_size (by repeat (first | (with_reducible first | exact HB.out | apply below_alloc | apply pw_below_drewN | apply below_drew1 | refine below_set ?_ GE319.out) | exact HB.out)))); have n7_ := Aside0.mk (blk_below (g := gb319) (o := .cells #[.int .i64 a2_0, .int .i64 a2_1, .int .i64 a2_2, .slice A2_3 l2_3.length c2_3] 27 (0, 0)) (by (with_reducible repeat (first | refine blk_drewN ?_ _ | refine blk_drew ?_ | refine blk_alloc ?_ _)); exact BK319.out) hb); have n8_ := Aside0.mk (below_step (by repeat (first | (with_reducible first | exact HB.out | apply below_alloc | apply pw_below_drewN | apply below_drew1 | refine below_set ?_ GE319.out) | exact HB.out)) hb); clear HO323; clear HO326; clear HO331; clear HO334; clear HO338; clear HO341; clear BK319; clear HB; have HO323 := n0_; have HO326 := n1_; have HO331 := n2_; have HO334 := n3_; have HO338 := n4_; have HO341 := n5_; have HO345 := n6_; have BK319 := n7_; have HB := n8_; clear n0_ n1_ n2_ n3_ n4_ n5_ n6_ n7_ n8_; (try clear hb); (try clear hb2); (try clear hk); (try clear hi); (try clear ho0)) | (go_at_call 20; (with_reducible refine (r11_Meet.calls k _ _ t321 _ _ t324 t346 _ ?side1 ?side2 ?side3 ?side4 A26.out).mono ?_); (case side1 => repeat (first | exact (Kd.R_reads' HO323.out).2.2 | (with_reducible refine Kd.C_alloc ?_ _) | (with_reducible refine Kd.C_drewN ?_ _) | (with_reducible refine Kd.C_drew ?_))); (case side2 => exact (Kd.R_reads' HO323.out).2.1); (case side3 => repeat (first | exact (Kd.R_reads' HO326.out).2.2 | (with_reducible refine Kd.C_alloc ?_ _) | (with_reducible refine Kd.C_drewN ?_ _) | (with_reducible refine Kd.C_drew ?_))); (case side4 => exact (Kd.R_reads' HO326.out).2.1); rintro e w44 ⟨v347, rfl, ho0, hb⟩; have n0_ := Aside0.mk (Kd.R_elder' (rZ HO323.out) (Kd.R_base ho0) hb); have n1_ := Aside0.mk (Kd.R_elder' (rZ HO326.out) (Kd.R_base ho0) hb); have n2_ := Aside0.mk (Kd.R_elder' (rZ HO331.out) (Kd.R_base ho0) hb); have n3_ := Aside0.mk (Kd.R_elder' (rZ HO334.out) (Kd.R_base ho0) hb); have n4_ := Aside0.mk (Kd.R_elder' (rZ HO338.out) (Kd.R_base ho0) hb); have n5_ := Aside0.mk (Kd.R_elder' (rZ HO341.out) (Kd.R_base ho0) hb); have n6_ := Aside0.mk (Kd.R_elder' (rZ HO345.out) (Kd.R_base ho0) hb); have n7_ := Aside0.mk (Kd.R_lower (Kd.R_new' (Kd.R_new' (Kd.R_new' (Kd.R_new' (Kd.R_new' (Kd.R_new' (Kd.R_new' ho0 (Kd.R_lt (rZ HO323.out))) (Kd.R_lt (rZ HO326.out))) (Kd.R_lt (rZ HO331.out))) (Kd.R_lt (rZ HO334.out))) (Kd.R_lt (rZ HO338.out))) (Kd.R_lt (rZ HO341.out))) (Kd.R_lt (rZ HO345.out))) (below_size (by repeat (first | (with_reducible first | exact HB.out | apply below_alloc | apply pw_below_drewN | apply below_drew1 | refine below_set ?_ GE319.out) | exact HB.out)))); have n8_ := Aside0.mk (blk_below (g := gb319) (o := .cells #[.int .i64 a2_0, .int .i64 a2_1, .int .i64 a2_2, .slice A2_3 l2_3.length c2_3] 27 (0, 0)) (by (with_reducible repeat (first | refine blk_drewN ?_ _ | refine blk_drew ?_ | refine blk_alloc ?_ _)); exact BK319.out) hb); have n9_ := Aside0.mk (below_step (by repeat (first | (with_reducible first | exact HB.out | apply below_alloc | apply pw_below_drewN | apply below_drew1 | refine below_set ?_ GE319.out) | exact HB.out)) hb); clear HO323; clear HO326; clear HO331; clear HO334; clear HO338; clear HO341; clear HO345; clear BK319; clear HB; have HO323 := n0_; have HO326 := n1_; have HO331 := n2_; have HO334 := n3_; have HO338 := n4_; have HO341 := n5_; have HO345 := n6_; have HO348 := n7_; have BK319 := n8_; have HB := n9_; clear n0_ n1_ n2_ n3_ n4_ n5_ n6_ n7_ n8_ n9_; (try clear hb); (try clear hb2); (try clear hk); (try clear hi); (try clear ho0); obtain ⟨Ao45, co45, eo45⟩ := Kd.R_slice HO345.out; subst eo45; obtain ⟨Ao46, co46, eo46⟩ := Kd.R_slice HO348.out; subst eo46) | (go_at_call 14; (with_reducible refine (r11_Same.calls k _ _ t343 _ _ t346 true _ ?side1 ?side2 ?side3 ?side4 A27.out).mono ?_); (case side1 => repeat (first | exact (Kd.R_reads' HO345.out).2.2 | (with_reducible refine Kd.C_alloc ?_ _) | (with_reducible refine Kd.C_drewN ?_ _) | (with_reducible refine Kd.C_drew ?_))); (case side2 => exact (Kd.R_reads' HO345.out).2.1); (case side3 => repeat (first | exact (Kd.R_reads' HO348.out).2.2 | (with_reducible refine Kd.C_alloc ?_ _) | (with_reducible refine Kd.C_drewN ?_ _) | (with_reducible refine Kd.C_drew ?_))); (case side4 => exact (Kd.R_reads' HO348.out).2.1); rintro e w' ⟨rfl, ⟨nd, rfl⟩⟩) | (go_at_call 21; (with_reducible refine (span_Minus.calls _ _ t321 _ _ t324 t350 _ ?side1 ?side2 ?side3 ?side4 A29.out).mono ?_); (case side1 => repeat (first | exact (Kd.R_reads' HO323.out).2.2 | (with_reducible refine Kd.C_alloc ?_ _) | (with_reducible refine Kd.C_drewN ?_ _) | (with_reducible refine Kd.C_drew ?_))); (case side2 => exact (Kd.R_reads' HO323.out).2.1); (case side3 => repeat (first | exact (Kd.R_reads' HO326.out).2.2 | (with_reducible refine Kd.C_alloc ?_ _) | (with_reducible refine Kd.C_drewN ?_ _) | (with_reducible refine Kd.C_drew ?_))); (case side4 => exact (Kd.R_reads' HO326.out).2.1); rintro e w47 ⟨v351, rfl, ho0, hb⟩; have n0_ := Aside0.mk (Kd.R_elder' (rZ HO323.out) (Kd.R_base ho0) hb); have n1_ := Aside0.mk (Kd.R_elder' (rZ HO326.out) (Kd.R_base ho0) hb); have n2_ := Aside0.mk (Kd.R_elder' (rZ HO331.out) (Kd.R_base ho0) hb); have n3_ := Aside0.mk (Kd.R_elder' (rZ HO334.out) (Kd.R_base ho0) hb); have n4_ := Aside0.mk (Kd.R_elder' (rZ HO338.out) (Kd.R_base ho0) hb); have n5_ := Aside0.mk (Kd.R_elder' (rZ HO341.out) (Kd.R_base ho0) hb); have n6_ := Aside0.mk (Kd.R_elder' (rZ HO345.out) (Kd.R_base ho0) hb); have n7_ := Aside0.mk (Kd.R_elder' (rZ HO348.out) (Kd.R_base ho0) hb); have n8_ := Aside0.mk (Kd.R_lower (Kd.R_new' (Kd.R_new' (Kd.R_new' (Kd.R_new' (Kd.R_new' (Kd.R_new' (Kd.R_new' (Kd.R_new' ho0 (Kd.R_lt (rZ HO323.out))) (Kd.R_lt (rZ HO326.out))) (Kd.R_lt (rZ HO331.out))) (Kd.R_lt (rZ HO334.out))) (Kd.R_lt (rZ HO338.out))) (Kd.R_lt (rZ HO341.out))) (Kd.R_lt (rZ HO345.out))) (Kd.R_lt (rZ HO348.out))) (below_size (by repeat (first | (with_reducible first | exact HB.out | apply below_alloc | apply pw_below_drewN | apply below_drew1 | refine below_set ?_ GE319.out) | exact HB.out)))); have n9_ := Aside0.mk (blk_below (g := gb319) (o := .cells #[.int .i64 a2_0, .int .i64 a2_1, .int .i64 a2_2, .slice A2_3 l2_3.length c2_3] 27 (0, 0)) (by (with_reducible repeat (first | refine blk_drewN ?_ _ | refine blk_drew ?_ | refine blk_alloc ?_ _)); exact BK319.out) hb); have n10_ := Aside0.mk (below_step (by repeat (first | (with_reducible first | exact HB.out | apply below_alloc | apply pw_below_drewN | apply below_drew1 | refine below_set ?_ GE319.out) | exact HB.out)) hb); clear HO323; clear HO326; clear HO331; clear HO334; clear HO338; clear HO341; clear HO345; clear HO348; clear BK319; clear HB; have HO323 := n0_; have HO326 := n1_; have HO331 := n2_; have HO334 := n3_; have HO338 := n4_; have HO341 := n5_; have HO345 := n6_; have HO348 := n7_; have HO352 := n8_; have BK319 := n9_; have HB := n10_; clear n0_ n1_ n2_ n3_ n4_ n5_ n6_ n7_ n8_ n9_ n10_; (try clear hb); (try clear hb2); (try clear hk); (try clear hi); (try clear ho0)) | (go_at_call 22; (with_reducible refine (r11_Minus.calls k _ _ t321 _ _ t324 t353 _ ?side1 ?side2 ?side3 ?side4 A30.out).mono ?_); (case side1 => repeat (first | exact (Kd.R_reads' HO323.out).2.2 | (with_reducible refine Kd.C_alloc ?_ _) | (with_reducible refine Kd.C_drewN ?_ _) | (with_reducible refine Kd.C_drew ?_))); (case side2 => exact (Kd.R_reads' HO323.out).2.1); (case side3 => repeat (first | exact (Kd.R_reads' HO326.out).2.2 | (with_reducible refine Kd.C_alloc ?_ _) | (with_reducible refine Kd.C_drewN ?_ _) | (with_reducible refine Kd.C_drew ?_))); (case side4 => exact (Kd.R_reads' HO326.out).2.1); rintro e w48 ⟨v354, rfl, ho0, hb⟩; have n0_ := Aside0.mk (Kd.R_elder' (rZ HO323.out) (Kd.R_base ho0) hb); have n1_ := Aside0.mk (Kd.R_elder' (rZ HO326.out) (Kd.R_base ho0) hb); have n2_ := Aside0.mk (Kd.R_elder' (rZ HO331.out) (Kd.R_base ho0) hb); have n3_ := Aside0.mk (Kd.R_elder' (rZ HO334.out) (Kd.R_base ho0) hb); have n4_ := Aside0.mk (Kd.R_elder' (rZ HO338.out) (Kd.R_base ho0) hb); have n5_ := Aside0.mk (Kd.R_elder' (rZ HO341.out) (Kd.R_base ho0) hb); have n6_ := Aside0.mk (Kd.R_elder' (rZ HO345.out) (Kd.R_base ho0) hb); have n7_ := Aside0.mk (Kd.R_elder' (rZ HO348.out) (Kd.R_base ho0) hb); have n8_ := Aside0.mk (Kd.R_elder' (rZ HO352.out) (Kd.R_base ho0) hb); have n9_ := Aside0.mk (Kd.R_lower (Kd.R_new' (Kd.R_new' (Kd.R_new' (Kd.R_new' (Kd.R_new' (Kd.R_new' (Kd.R_new' (Kd.R_new' (Kd.R_new' ho0 (Kd.R_lt (rZ HO323.out))) (Kd.R_lt (rZ HO326.out))) (Kd.R_lt (rZ HO331.out))) (Kd.R_lt (rZ HO334.out))) (Kd.R_lt (rZ HO338.out))) (Kd.R_lt (rZ HO341.out))) (Kd.R_lt (rZ HO345.out))) (Kd.R_lt (rZ HO348.out))) (Kd.R_lt (rZ HO352.out))) (below_size (by repeat (first | (with_reducible first | exact HB.out | apply below_alloc | apply pw_below_drewN | apply below_drew1 | refine below_set ?_ GE319.out) | exact HB.out)))); have n10_ := Aside0.mk (blk_below (g := gb319) (o := .cells #[.int .i64 a2_0, .int .i64 a2_1, .int .i64 a2_2, .slice A2_3 l2_3.length c2_3] 27 (0, 0)) (by (with_reducible repeat (first | refine blk_drewN ?_ _ | refine blk_drew ?_ | refine blk_alloc ?_ _)); exact BK319.out) hb); have n11_ := Aside0.mk (below_step (by repeat (first | (with_reducible first | exact HB.out | apply below_alloc | apply pw_below_drewN | apply below_drew1 | refine below_set ?_ GE319.out) | exact HB.out)) hb); clear HO323; clear HO326; clear HO331; clear HO334; clear HO338; clear HO341; clear HO345; clear HO348; clear HO352; clear BK319; clear HB; have HO323 := n0_; have HO326 := n1_; have HO331 := n2_; have HO334 := n3_; have HO338 := n4_; have HO341 := n5_; have HO345 := n6_; have HO348 := n7_; have HO352 := n8_; have HO355 := n9_; have BK319 := n10_; have HB := n11_; clear n0_ n1_ n2_ n3_ n4_ n5_ n6_ n7_ n8_ n9_ n10_ n11_; (try clear hb); (try clear hb2); (try clear hk); (try clear hi); (try clear ho0); obtain ⟨Ao49, co49, eo49⟩ := Kd.R_slice HO352.out; subst eo49; obtain ⟨Ao50, co50, eo50⟩ := Kd.R_slice HO355.out; subst eo50) | (go_at_call 14; (with_reducible refine (r11_Same.calls k _ _ t350 _ _ t353 t356 _ ?side1 ?side2 ?side3 ?side4 A31.out).mono ?_); (case side1 => repeat (first | exact (Kd.R_reads' HO352.out).2.2 | (with_reducible refine Kd.C_alloc ?_ _) | (with_reducible refine Kd.C_drewN ?_ _) | (with_reducible refine Kd.C_drew ?_))); (case side2 => exact (Kd.R_reads' HO352.out).2.1); (case side3 => repeat (first | exact (Kd.R_reads' HO355.out).2.2 | (with_reducible refine Kd.C_alloc ?_ _) | (with_reducible refine Kd.C_drewN ?_ _) | (with_reducible refine Kd.C_drew ?_))); (case side4 => exact (Kd.R_reads' HO355.out).2.1); rintro e w' ⟨rfl, ⟨nd, rfl⟩⟩))
      go_meet
      case rel => exact ⟨_, (!t356), (by first | rfl | (simp; done) | (simp [*]; done)), H', ⟨by first | omega | exact Nat.le_refl _⟩, ⟨by (with_reducible repeat (first | apply Kd.R_alloc | apply Kd.R_drewN | apply Kd.R_drew)); exact Kd.R_mono HO323.out (fun _ hk => trivial)⟩, ⟨by (with_reducible repeat (first | refine blk_drewN ?_ _ | refine blk_drew ?_ | refine blk_alloc ?_ _)); exact BK319.out⟩, ⟨by repeat (first | (with_reducible first | exact HB.out | apply below_alloc | apply pw_below_drewN | apply below_drew1 | refine below_set ?_ GE319.out) | exact HB.out)⟩⟩
     ·replace c28 := Bool.eq_false_iff.mpr c28
      subst c28
      have H1 : (l11_SpanMatchesReference.j0 k t320 t321 true a2_0 a2_1 a2_2 l2_3) = some r := by rw [if_neg (show ¬ (false = true) by decide)] at H; exact H
      clear H
      have H := H1
      clear H1
      have H' := Aside0.mk H
      clear H
      obtain ⟨Ao51, co51, eo51⟩ := Kd.R_slice HO323.out
      subst eo51
      go_wp2_with (first | ((with_reducible refine gate_callee (f := 12) rfl ?_); refine goesL_ (some 17) rfl rfl Try.func12 (by kernel_rfl) rfl #[.slice Ao51 t321.length co51] rfl (by (try simp only [List.map_toArray, List.map_cons, List.map_nil]); first | done | rfl | (simp only [List.length_drop, List.length_take]; rfl)) ?_; (with_reducible refine (span_Valid.calls k _ _ t321 t327 _ ?side1 ?side2 A12.out).mono ?_); (case side1 => repeat (first | exact (Kd.R_reads' HO323.out).2.2 | (with_reducible refine Kd.C_alloc ?_ _) | (with_reducible refine Kd.C_drewN ?_ _) | (with_reducible refine Kd.C_drew ?_))); (case side2 => exact (Kd.R_reads' HO323.out).2.1); rintro e w52 ⟨rfl, hb⟩; refine ⟨_, rfl, ?_⟩; have n0_ := Aside0.mk (Kd.R_below (rZ HO323.out) hb); have n1_ := Aside0.mk (Kd.R_below (rZ HO326.out) hb); have n2_ := Aside0.mk (blk_below (g := gb319) (o := .cells #[.int .i64 a2_0, .int .i64 a2_1, .int .i64 a2_2, .slice A2_3 l2_3.length c2_3] 27 (0, 0)) (by (with_reducible repeat (first | refine blk_drewN ?_ _ | refine blk_drew ?_ | refine blk_alloc ?_ _)); exact BK319.out) hb); have n3_ := Aside0.mk (below_step (by repeat (first | (with_reducible first | exact HB.out | apply below_alloc | apply pw_below_drewN | apply below_drew1 | refine below_set ?_ GE319.out) | exact HB.out)) hb); clear HO323; clear HO326; clear BK319; clear HB; have HO323 := n0_; have HO326 := n1_; have BK319 := n2_; have HB := n3_; clear n0_ n1_ n2_ n3_; (try clear hb); (try clear hb2); (try clear hk); (try clear hi)) | ((with_reducible refine gate_callee (f := 13) rfl ?_); refine goesL_ (some 19) rfl rfl Try.func13 (by kernel_rfl) rfl #[.slice Ao51 t321.length co51] rfl (by (try simp only [List.map_toArray, List.map_cons, List.map_nil]); first | done | rfl | (simp only [List.length_drop, List.length_take]; rfl)) ?_; (with_reducible refine (r11_Valid.calls k _ _ t321 t328 _ ?side1 ?side2 A13.out).mono ?_); (case side1 => repeat (first | exact (Kd.R_reads' HO323.out).2.2 | (with_reducible refine Kd.C_alloc ?_ _) | (with_reducible refine Kd.C_drewN ?_ _) | (with_reducible refine Kd.C_drew ?_))); (case side2 => exact (Kd.R_reads' HO323.out).2.1); rintro e w' ⟨rfl, ⟨nd, rfl⟩⟩; refine ⟨_, rfl, ?_⟩) | (go_at_call 15; (with_reducible refine (span_Norm.calls _ _ t321 t329 _ ?side1 ?side2 A17.out).mono ?_); (case side1 => repeat (first | exact (Kd.R_reads' HO323.out).2.2 | (with_reducible refine Kd.C_alloc ?_ _) | (with_reducible refine Kd.C_drewN ?_ _) | (with_reducible refine Kd.C_drew ?_))); (case side2 => exact (Kd.R_reads' HO323.out).2.1); rintro e w53 ⟨v330, rfl, ho0, hb⟩; have n0_ := Aside0.mk (Kd.R_elder' (rZ HO323.out) (Kd.R_base ho0) hb); have n1_ := Aside0.mk (Kd.R_elder' (rZ HO326.out) (Kd.R_base ho0) hb); have n2_ := Aside0.mk (Kd.R_lower (Kd.R_new' (Kd.R_new' ho0 (Kd.R_lt (rZ HO323.out))) (Kd.R_lt (rZ HO326.out))) (below_size (by repeat (first | (with_reducible first | exact HB.out | apply below_alloc | apply pw_below_drewN | apply below_drew1 | refine below_set ?_ GE319.out) | exact HB.out)))); have n3_ := Aside0.mk (blk_below (g := gb319) (o := .cells #[.int .i64 a2_0, .int .i64 a2_1, .int .i64 a2_2, .slice A2_3 l2_3.length c2_3] 27 (0, 0)) (by (with_reducible repeat (first | refine blk_drewN ?_ _ | refine blk_drew ?_ | refine blk_alloc ?_ _)); exact BK319.out) hb); have n4_ := Aside0.mk (below_step (by repeat (first | (with_reducible first | exact HB.out | apply below_alloc | apply pw_below_drewN | apply below_drew1 | refine below_set ?_ GE319.out) | exact HB.out)) hb); clear HO323; clear HO326; clear BK319; clear HB; have HO323 := n0_; have HO326 := n1_; have HO331 := n2_; have BK319 := n3_; have HB := n4_; clear n0_ n1_ n2_ n3_ n4_; (try clear hb); (try clear hb2); (try clear hk); (try clear hi); (try clear ho0)) | (go_at_call 16; (with_reducible refine (r11_Norm.calls k _ _ t321 t332 _ ?side1 ?side2 A18.out).mono ?_); (case side1 => repeat (first | exact (Kd.R_reads' HO323.out).2.2 | (with_reducible refine Kd.C_alloc ?_ _) | (with_reducible refine Kd.C_drewN ?_ _) | (with_reducible refine Kd.C_drew ?_))); (case side2 => exact (Kd.R_reads' HO323.out).2.1); rintro e w54 ⟨v333, rfl, ho0, hb⟩; have n0_ := Aside0.mk (Kd.R_elder' (rZ HO323.out) (Kd.R_base ho0) hb); have n1_ := Aside0.mk (Kd.R_elder' (rZ HO326.out) (Kd.R_base ho0) hb); have n2_ := Aside0.mk (Kd.R_elder' (rZ HO331.out) (Kd.R_base ho0) hb); have n3_ := Aside0.mk (Kd.R_lower (Kd.R_new' (Kd.R_new' (Kd.R_new' ho0 (Kd.R_lt (rZ HO323.out))) (Kd.R_lt (rZ HO326.out))) (Kd.R_lt (rZ HO331.out))) (below_size (by repeat (first | (with_reducible first | exact HB.out | apply below_alloc | apply pw_below_drewN | apply below_drew1 | refine below_set ?_ GE319.out) | exact HB.out)))); have n4_ := Aside0.mk (blk_below (g := gb319) (o := .cells #[.int .i64 a2_0, .int .i64 a2_1, .int .i64 a2_2, .slice A2_3 l2_3.length c2_3] 27 (0, 0)) (by (with_reducible repeat (first | refine blk_drewN ?_ _ | refine blk_drew ?_ | refine blk_alloc ?_ _)); exact BK319.out) hb); have n5_ := Aside0.mk (below_step (by repeat (first | (with_reducible first | exact HB.out | apply below_alloc | apply pw_below_drewN | apply below_drew1 | refine below_set ?_ GE319.out) | exact HB.out)) hb); clear HO323; clear HO326; clear HO331; clear BK319; clear HB; have HO323 := n0_; have HO326 := n1_; have HO331 := n2_; have HO334 := n3_; have BK319 := n4_; have HB := n5_; clear n0_ n1_ n2_ n3_ n4_ n5_; (try clear hb); (try clear hb2); (try clear hk); (try clear hi); (try clear ho0); obtain ⟨Ao55, co55, eo55⟩ := Kd.R_slice HO331.out; subst eo55; obtain ⟨Ao56, co56, eo56⟩ := Kd.R_slice HO334.out; subst eo56) | (go_at_call 14; (with_reducible refine (r11_Same.calls k _ _ t329 _ _ t332 true _ ?side1 ?side2 ?side3 ?side4 A19.out).mono ?_); (case side1 => repeat (first | exact (Kd.R_reads' HO331.out).2.2 | (with_reducible refine Kd.C_alloc ?_ _) | (with_reducible refine Kd.C_drewN ?_ _) | (with_reducible refine Kd.C_drew ?_))); (case side2 => exact (Kd.R_reads' HO331.out).2.1); (case side3 => repeat (first | exact (Kd.R_reads' HO334.out).2.2 | (with_reducible refine Kd.C_alloc ?_ _) | (with_reducible refine Kd.C_drewN ?_ _) | (with_reducible refine Kd.C_drew ?_))); (case side4 => exact (Kd.R_reads' HO334.out).2.1); rintro e w' ⟨rfl, ⟨nd, rfl⟩⟩; obtain ⟨Ao57, co57, eo57⟩ := Kd.R_slice HO326.out; subst eo57) | (go_at_call 17; (with_reducible refine (span_Union.calls _ _ t321 _ _ t324 t336 _ ?side1 ?side2 ?side3 ?side4 A21.out).mono ?_); (case side1 => repeat (first | exact (Kd.R_reads' HO323.out).2.2 | (with_reducible refine Kd.C_alloc ?_ _) | (with_reducible refine Kd.C_drewN ?_ _) | (with_reducible refine Kd.C_drew ?_))); (case side2 => exact (Kd.R_reads' HO323.out).2.1); (case side3 => repeat (first | exact (Kd.R_reads' HO326.out).2.2 | (with_reducible refine Kd.C_alloc ?_ _) | (with_reducible refine Kd.C_drewN ?_ _) | (with_reducible refine Kd.C_drew ?_))); (case side4 => exact (Kd.R_reads' HO326.out).2.1); rintro e w58 ⟨v337, rfl, ho0, hb⟩; have n0_ := Aside0.mk (Kd.R_elder' (rZ HO323.out) (Kd.R_base ho0) hb); have n1_ := Aside0.mk (Kd.R_elder' (rZ HO326.out) (Kd.R_base ho0) hb); have n2_ := Aside0.mk (Kd.R_elder' (rZ HO331.out) (Kd.R_base ho0) hb); have n3_ := Aside0.mk (Kd.R_elder' (rZ HO334.out) (Kd.R_base ho0) hb); have n4_ := Aside0.mk (Kd.R_lower (Kd.R_new' (Kd.R_new' (Kd.R_new' (Kd.R_new' ho0 (Kd.R_lt (rZ HO323.out))) (Kd.R_lt (rZ HO326.out))) (Kd.R_lt (rZ HO331.out))) (Kd.R_lt (rZ HO334.out))) (below_size (by repeat (first | (with_reducible first | exact HB.out | apply below_alloc | apply pw_below_drewN | apply below_drew1 | refine below_set ?_ GE319.out) | exact HB.out)))); have n5_ := Aside0.mk (blk_below (g := gb319) (o := .cells #[.int .i64 a2_0, .int .i64 a2_1, .int .i64 a2_2, .slice A2_3 l2_3.length c2_3] 27 (0, 0)) (by (with_reducible repeat (first | refine blk_drewN ?_ _ | refine blk_drew ?_ | refine blk_alloc ?_ _)); exact BK319.out) hb); have n6_ := Aside0.mk (below_step (by repeat (first | (with_reducible first | exact HB.out | apply below_alloc | apply pw_below_drewN | apply below_drew1 | refine below_set ?_ GE319.out) | exact HB.out)) hb); clear HO323; clear HO326; clear HO331; clear HO334; clear BK319; clear HB; have HO323 := n0_; have HO326 := n1_; have HO331 := n2_; have HO334 := n3_; have HO338 := n4_; have BK319 := n5_; have HB := n6_; clear n0_ n1_ n2_ n3_ n4_ n5_ n6_; (try clear hb); (try clear hb2); (try clear hk); (try clear hi); (try clear ho0)) | (go_at_call 18; (with_reducible refine (r11_Union.calls k _ _ t321 _ _ t324 t339 _ ?side1 ?side2 ?side3 ?side4 A22.out).mono ?_); (case side1 => repeat (first | exact (Kd.R_reads' HO323.out).2.2 | (with_reducible refine Kd.C_alloc ?_ _) | (with_reducible refine Kd.C_drewN ?_ _) | (with_reducible refine Kd.C_drew ?_))); (case side2 => exact (Kd.R_reads' HO323.out).2.1); (case side3 => repeat (first | exact (Kd.R_reads' HO326.out).2.2 | (with_reducible refine Kd.C_alloc ?_ _) | (with_reducible refine Kd.C_drewN ?_ _) | (with_reducible refine Kd.C_drew ?_))); (case side4 => exact (Kd.R_reads' HO326.out).2.1); rintro e w59 ⟨v340, rfl, ho0, hb⟩; have n0_ := Aside0.mk (Kd.R_elder' (rZ HO323.out) (Kd.R_base ho0) hb); have n1_ := Aside0.mk (Kd.R_elder' (rZ HO326.out) (Kd.R_base ho0) hb); have n2_ := Aside0.mk (Kd.R_elder' (rZ HO331.out) (Kd.R_base ho0) hb); have n3_ := Aside0.mk (Kd.R_elder' (rZ HO334.out) (Kd.R_base ho0) hb); have n4_ := Aside0.mk (Kd.R_elder' (rZ HO338.out) (Kd.R_base ho0) hb); have n5_ := Aside0.mk (Kd.R_lower (Kd.R_new' (Kd.R_new' (Kd.R_new' (Kd.R_new' (Kd.R_new' ho0 (Kd.R_lt (rZ HO323.out))) (Kd.R_lt (rZ HO326.out))) (Kd.R_lt (rZ HO331.out))) (Kd.R_lt (rZ HO334.out))) (Kd.R_lt (rZ HO338.out))) (below_size (by repeat (first | (with_reducible first | exact HB.out | apply below_alloc | apply pw_below_drewN | apply below_drew1 | refine below_set ?_ GE319.out) | exact HB.out)))); have n6_ := Aside0.mk (blk_below (g := gb319) (o := .cells #[.int .i64 a2_0, .int .i64 a2_1, .int .i64 a2_2, .slice A2_3 l2_3.length c2_3] 27 (0, 0)) (by (with_reducible repeat (first | refine blk_drewN ?_ _ | refine blk_drew ?_ | refine blk_alloc ?_ _)); exact BK319.out) hb); have n7_ := Aside0.mk (below_step (by repeat (first | (with_reducible first | exact HB.out | apply below_alloc | apply pw_below_drewN | apply below_drew1 | refine below_set ?_ GE319.out) | exact HB.out)) hb); clear HO323; clear HO326; clear HO331; clear HO334; clear HO338; clear BK319; clear HB; have HO323 := n0_; have HO326 := n1_; have HO331 := n2_; have HO334 := n3_; have HO338 := n4_; have HO341 := n5_; have BK319 := n6_; have HB := n7_; clear n0_ n1_ n2_ n3_ n4_ n5_ n6_ n7_; (try clear hb); (try clear hb2); (try clear hk); (try clear hi); (try clear ho0); obtain ⟨Ao60, co60, eo60⟩ := Kd.R_slice HO338.out; subst eo60; obtain ⟨Ao61, co61, eo61⟩ := Kd.R_slice HO341.out; subst eo61) | (go_at_call 14; (with_reducible refine (r11_Same.calls k _ _ t336 _ _ t339 true _ ?side1 ?side2 ?side3 ?side4 A23.out).mono ?_); (case side1 => repeat (first | exact (Kd.R_reads' HO338.out).2.2 | (with_reducible refine Kd.C_alloc ?_ _) | (with_reducible refine Kd.C_drewN ?_ _) | (with_reducible refine Kd.C_drew ?_))); (case side2 => exact (Kd.R_reads' HO338.out).2.1); (case side3 => repeat (first | exact (Kd.R_reads' HO341.out).2.2 | (with_reducible refine Kd.C_alloc ?_ _) | (with_reducible refine Kd.C_drewN ?_ _) | (with_reducible refine Kd.C_drew ?_))); (case side4 => exact (Kd.R_reads' HO341.out).2.1); rintro e w' ⟨rfl, ⟨nd, rfl⟩⟩) | (go_at_call 19; (with_reducible refine (span_Meet.calls _ _ t321 _ _ t324 t343 _ ?side1 ?side2 ?side3 ?side4 A25.out).mono ?_); (case side1 => repeat (first | exact (Kd.R_reads' HO323.out).2.2 | (with_reducible refine Kd.C_alloc ?_ _) | (with_reducible refine Kd.C_drewN ?_ _) | (with_reducible refine Kd.C_drew ?_))); (case side2 => exact (Kd.R_reads' HO323.out).2.1); (case side3 => repeat (first | exact (Kd.R_reads' HO326.out).2.2 | (with_reducible refine Kd.C_alloc ?_ _) | (with_reducible refine Kd.C_drewN ?_ _) | (with_reducible refine Kd.C_drew ?_))); (case side4 => exact (Kd.R_reads' HO326.out).2.1); rintro e w62 ⟨v344, rfl, ho0, hb⟩; have n0_ := Aside0.mk (Kd.R_elder' (rZ HO323.out) (Kd.R_base ho0) hb); have n1_ := Aside0.mk (Kd.R_elder' (rZ HO326.out) (Kd.R_base ho0) hb); have n2_ := Aside0.mk (Kd.R_elder' (rZ HO331.out) (Kd.R_base ho0) hb); have n3_ := Aside0.mk (Kd.R_elder' (rZ HO334.out) (Kd.R_base ho0) hb); have n4_ := Aside0.mk (Kd.R_elder' (rZ HO338.out) (Kd.R_base ho0) hb); have n5_ := Aside0.mk (Kd.R_elder' (rZ HO341.out) (Kd.R_base ho0) hb); have n6_ := Aside0.mk (Kd.R_lower (Kd.R_new' (Kd.R_new' (Kd.R_new' (Kd.R_new' (Kd.R_new' (Kd.R_new' ho0 (Kd.R_lt (rZ HO323.out))) (Kd.R_lt (rZ HO326.out))) (Kd.R_lt (rZ HO331.out))) (Kd.R_lt (rZ HO334.out))) (Kd.R_lt (rZ HO338.out))) (Kd.R_lt (rZ HO341.out))) (below_size (by repeat (first | (with_reducible first | exact HB.out | apply below_alloc | apply pw_below_drewN | apply below_drew1 | refine below_set ?_ GE319.out) | exact HB.out)))); have n7_ := Aside0.mk (blk_below (g := gb319) (o := .cells #[.int .i64 a2_0, .int .i64 a2_1, .int .i64 a2_2, .slice A2_3 l2_3.length c2_3] 27 (0, 0)) (by (with_reducible repeat (first | refine blk_drewN ?_ _ | refine blk_drew ?_ | refine blk_alloc ?_ _)); exact BK319.out) hb); have n8_ := Aside0.mk (below_step (by repeat (first | (with_reducible first | exact HB.out | apply below_alloc | apply pw_below_drewN | apply below_drew1 | refine below_set ?_ GE319.out) | exact HB.out)) hb); clear HO323; clear HO326; clear HO331; clear HO334; clear HO338; clear HO341; clear BK319; clear HB; have HO323 := n0_; have HO326 := n1_; have HO331 := n2_; have HO334 := n3_; have HO338 := n4_; have HO341 := n5_; have HO345 := n6_; have BK319 := n7_; have HB := n8_; clear n0_ n1_ n2_ n3_ n4_ n5_ n6_ n7_ n8_; (try clear hb); (try clear hb2); (try clear hk); (try clear hi); (try clear ho0)) | (go_at_call 20; (with_reducible refine (r11_Meet.calls k _ _ t321 _ _ t324 t346 _ ?side1 ?side2 ?side3 ?side4 A26.out).mono ?_); (case side1 => repeat (first | exact (Kd.R_reads' HO323.out).2.2 | (with_reducible refine Kd.C_alloc ?_ _) | (with_reducible refine Kd.C_drewN ?_ _) | (with_reducible refine Kd.C_drew ?_))); (case side2 => exact (Kd.R_reads' HO323.out).2.1); (case side3 => repeat (first | exact (Kd.R_reads' HO326.out).2.2 | (with_reducible refine Kd.C_alloc ?_ _) | (with_reducible refine Kd.C_drewN ?_ _) | (with_reducible refine Kd.C_drew ?_))); (case side4 => exact (Kd.R_reads' HO326.out).2.1); rintro e w63 ⟨v347, rfl, ho0, hb⟩; have n0_ := Aside0.mk (Kd.R_elder' (rZ HO323.out) (Kd.R_base ho0) hb); have n1_ := Aside0.mk (Kd.R_elder' (rZ HO326.out) (Kd.R_base ho0) hb); have n2_ := Aside0.mk (Kd.R_elder' (rZ HO331.out) (Kd.R_base ho0) hb); have n3_ := Aside0.mk (Kd.R_elder' (rZ HO334.out) (Kd.R_base ho0) hb); have n4_ := Aside0.mk (Kd.R_elder' (rZ HO338.out) (Kd.R_base ho0) hb); have n5_ := Aside0.mk (Kd.R_elder' (rZ HO341.out) (Kd.R_base ho0) hb); have n6_ := Aside0.mk (Kd.R_elder' (rZ HO345.out) (Kd.R_base ho0) hb); have n7_ := Aside0.mk (Kd.R_lower (Kd.R_new' (Kd.R_new' (Kd.R_new' (Kd.R_new' (Kd.R_new' (Kd.R_new' (Kd.R_new' ho0 (Kd.R_lt (rZ HO323.out))) (Kd.R_lt (rZ HO326.out))) (Kd.R_lt (rZ HO331.out))) (Kd.R_lt (rZ HO334.out))) (Kd.R_lt (rZ HO338.out))) (Kd.R_lt (rZ HO341.out))) (Kd.R_lt (rZ HO345.out))) (below_size (by repeat (first | (with_reducible first | exact HB.out | apply below_alloc | apply pw_below_drewN | apply below_drew1 | refine below_set ?_ GE319.out) | exact HB.out)))); have n8_ := Aside0.mk (blk_below (g := gb319) (o := .cells #[.int .i64 a2_0, .int .i64 a2_1, .int .i64 a2_2, .slice A2_3 l2_3.length c2_3] 27 (0, 0)) (by (with_reducible repeat (first | refine blk_drewN ?_ _ | refine blk_drew ?_ | refine blk_alloc ?_ _)); exact BK319.out) hb); have n9_ := Aside0.mk (below_step (by repeat (first | (with_reducible first | exact HB.out | apply below_alloc | apply pw_below_drewN | apply below_drew1 | refine below_set ?_ GE319.out) | exact HB.out)) hb); clear HO323; clear HO326; clear HO331; clear HO334; clear HO338; clear HO341; clear HO345; clear BK319; clear HB; have HO323 := n0_; have HO326 := n1_; have HO331 := n2_; have HO334 := n3_; have HO338 := n4_; have HO341 := n5_; have HO345 := n6_; have HO348 := n7_; have BK319 := n8_; have HB := n9_; clear n0_ n1_ n2_ n3_ n4_ n5_ n6_ n7_ n8_ n9_; (try clear hb); (try clear hb2); (try clear hk); (try clear hi); (try clear ho0); obtain ⟨Ao64, co64, eo64⟩ := Kd.R_slice HO345.out; subst eo64; obtain ⟨Ao65, co65, eo65⟩ := Kd.R_slice HO348.out; subst eo65) | (go_at_call 14; (with_reducible refine (r11_Same.calls k _ _ t343 _ _ t346 false _ ?side1 ?side2 ?side3 ?side4 A27.out).mono ?_); (case side1 => repeat (first | exact (Kd.R_reads' HO345.out).2.2 | (with_reducible refine Kd.C_alloc ?_ _) | (with_reducible refine Kd.C_drewN ?_ _) | (with_reducible refine Kd.C_drew ?_))); (case side2 => exact (Kd.R_reads' HO345.out).2.1); (case side3 => repeat (first | exact (Kd.R_reads' HO348.out).2.2 | (with_reducible refine Kd.C_alloc ?_ _) | (with_reducible refine Kd.C_drewN ?_ _) | (with_reducible refine Kd.C_drew ?_))); (case side4 => exact (Kd.R_reads' HO348.out).2.1); rintro e w' ⟨rfl, ⟨nd, rfl⟩⟩))
      go_meet
      case rel => exact ⟨_, (true), (by first | rfl | (simp; done) | (simp [*]; done)), H', ⟨by first | omega | exact Nat.le_refl _⟩, ⟨by (with_reducible repeat (first | apply Kd.R_alloc | apply Kd.R_drewN | apply Kd.R_drew)); exact Kd.R_mono HO323.out (fun _ hk => trivial)⟩, ⟨by (with_reducible repeat (first | refine blk_drewN ?_ _ | refine blk_drew ?_ | refine blk_alloc ?_ _)); exact BK319.out⟩, ⟨by repeat (first | (with_reducible first | exact HB.out | apply below_alloc | apply pw_below_drewN | apply below_drew1 | refine below_set ?_ GE319.out) | exact HB.out)⟩⟩
    ·replace c24 := Bool.eq_false_iff.mpr c24
     subst c24
     have H1 : (l11_SpanMatchesReference.j0 k t320 t321 true a2_0 a2_1 a2_2 l2_3) = some r := by rw [if_neg (show ¬ (false = true) by decide)] at H; exact H
     clear H
     have H := H1
     clear H1
     have H' := Aside0.mk H
     clear H
     obtain ⟨Ao66, co66, eo66⟩ := Kd.R_slice HO323.out
     subst eo66
     go_wp2_with (first | ((with_reducible refine gate_callee (f := 12) rfl ?_); refine goesL_ (some 17) rfl rfl Try.func12 (by kernel_rfl) rfl #[.slice Ao66 t321.length co66] rfl (by (try simp only [List.map_toArray, List.map_cons, List.map_nil]); first | done | rfl | (simp only [List.length_drop, List.length_take]; rfl)) ?_; (with_reducible refine (span_Valid.calls k _ _ t321 t327 _ ?side1 ?side2 A12.out).mono ?_); (case side1 => repeat (first | exact (Kd.R_reads' HO323.out).2.2 | (with_reducible refine Kd.C_alloc ?_ _) | (with_reducible refine Kd.C_drewN ?_ _) | (with_reducible refine Kd.C_drew ?_))); (case side2 => exact (Kd.R_reads' HO323.out).2.1); rintro e w67 ⟨rfl, hb⟩; refine ⟨_, rfl, ?_⟩; have n0_ := Aside0.mk (Kd.R_below (rZ HO323.out) hb); have n1_ := Aside0.mk (Kd.R_below (rZ HO326.out) hb); have n2_ := Aside0.mk (blk_below (g := gb319) (o := .cells #[.int .i64 a2_0, .int .i64 a2_1, .int .i64 a2_2, .slice A2_3 l2_3.length c2_3] 27 (0, 0)) (by (with_reducible repeat (first | refine blk_drewN ?_ _ | refine blk_drew ?_ | refine blk_alloc ?_ _)); exact BK319.out) hb); have n3_ := Aside0.mk (below_step (by repeat (first | (with_reducible first | exact HB.out | apply below_alloc | apply pw_below_drewN | apply below_drew1 | refine below_set ?_ GE319.out) | exact HB.out)) hb); clear HO323; clear HO326; clear BK319; clear HB; have HO323 := n0_; have HO326 := n1_; have BK319 := n2_; have HB := n3_; clear n0_ n1_ n2_ n3_; (try clear hb); (try clear hb2); (try clear hk); (try clear hi)) | ((with_reducible refine gate_callee (f := 13) rfl ?_); refine goesL_ (some 19) rfl rfl Try.func13 (by kernel_rfl) rfl #[.slice Ao66 t321.length co66] rfl (by (try simp only [List.map_toArray, List.map_cons, List.map_nil]); first | done | rfl | (simp only [List.length_drop, List.length_take]; rfl)) ?_; (with_reducible refine (r11_Valid.calls k _ _ t321 t328 _ ?side1 ?side2 A13.out).mono ?_); (case side1 => repeat (first | exact (Kd.R_reads' HO323.out).2.2 | (with_reducible refine Kd.C_alloc ?_ _) | (with_reducible refine Kd.C_drewN ?_ _) | (with_reducible refine Kd.C_drew ?_))); (case side2 => exact (Kd.R_reads' HO323.out).2.1); rintro e w' ⟨rfl, ⟨nd, rfl⟩⟩; refine ⟨_, rfl, ?_⟩) | (go_at_call 15; (with_reducible refine (span_Norm.calls _ _ t321 t329 _ ?side1 ?side2 A17.out).mono ?_); (case side1 => repeat (first | exact (Kd.R_reads' HO323.out).2.2 | (with_reducible refine Kd.C_alloc ?_ _) | (with_reducible refine Kd.C_drewN ?_ _) | (with_reducible refine Kd.C_drew ?_))); (case side2 => exact (Kd.R_reads' HO323.out).2.1); rintro e w68 ⟨v330, rfl, ho0, hb⟩; have n0_ := Aside0.mk (Kd.R_elder' (rZ HO323.out) (Kd.R_base ho0) hb); have n1_ := Aside0.mk (Kd.R_elder' (rZ HO326.out) (Kd.R_base ho0) hb); have n2_ := Aside0.mk (Kd.R_lower (Kd.R_new' (Kd.R_new' ho0 (Kd.R_lt (rZ HO323.out))) (Kd.R_lt (rZ HO326.out))) (below_size (by repeat (first | (with_reducible first | exact HB.out | apply below_alloc | apply pw_below_drewN | apply below_drew1 | refine below_set ?_ GE319.out) | exact HB.out)))); have n3_ := Aside0.mk (blk_below (g := gb319) (o := .cells #[.int .i64 a2_0, .int .i64 a2_1, .int .i64 a2_2, .slice A2_3 l2_3.length c2_3] 27 (0, 0)) (by (with_reducible repeat (first | refine blk_drewN ?_ _ | refine blk_drew ?_ | refine blk_alloc ?_ _)); exact BK319.out) hb); have n4_ := Aside0.mk (below_step (by repeat (first | (with_reducible first | exact HB.out | apply below_alloc | apply pw_below_drewN | apply below_drew1 | refine below_set ?_ GE319.out) | exact HB.out)) hb); clear HO323; clear HO326; clear BK319; clear HB; have HO323 := n0_; have HO326 := n1_; have HO331 := n2_; have BK319 := n3_; have HB := n4_; clear n0_ n1_ n2_ n3_ n4_; (try clear hb); (try clear hb2); (try clear hk); (try clear hi); (try clear ho0)) | (go_at_call 16; (with_reducible refine (r11_Norm.calls k _ _ t321 t332 _ ?side1 ?side2 A18.out).mono ?_); (case side1 => repeat (first | exact (Kd.R_reads' HO323.out).2.2 | (with_reducible refine Kd.C_alloc ?_ _) | (with_reducible refine Kd.C_drewN ?_ _) | (with_reducible refine Kd.C_drew ?_))); (case side2 => exact (Kd.R_reads' HO323.out).2.1); rintro e w69 ⟨v333, rfl, ho0, hb⟩; have n0_ := Aside0.mk (Kd.R_elder' (rZ HO323.out) (Kd.R_base ho0) hb); have n1_ := Aside0.mk (Kd.R_elder' (rZ HO326.out) (Kd.R_base ho0) hb); have n2_ := Aside0.mk (Kd.R_elder' (rZ HO331.out) (Kd.R_base ho0) hb); have n3_ := Aside0.mk (Kd.R_lower (Kd.R_new' (Kd.R_new' (Kd.R_new' ho0 (Kd.R_lt (rZ HO323.out))) (Kd.R_lt (rZ HO326.out))) (Kd.R_lt (rZ HO331.out))) (below_size (by repeat (first | (with_reducible first | exact HB.out | apply below_alloc | apply pw_below_drewN | apply below_drew1 | refine below_set ?_ GE319.out) | exact HB.out)))); have n4_ := Aside0.mk (blk_below (g := gb319) (o := .cells #[.int .i64 a2_0, .int .i64 a2_1, .int .i64 a2_2, .slice A2_3 l2_3.length c2_3] 27 (0, 0)) (by (with_reducible repeat (first | refine blk_drewN ?_ _ | refine blk_drew ?_ | refine blk_alloc ?_ _)); exact BK319.out) hb); have n5_ := Aside0.mk (below_step (by repeat (first | (with_reducible first | exact HB.out | apply below_alloc | apply pw_below_drewN | apply below_drew1 | refine below_set ?_ GE319.out) | exact HB.out)) hb); clear HO323; clear HO326; clear HO331; clear BK319; clear HB; have HO323 := n0_; have HO326 := n1_; have HO331 := n2_; have HO334 := n3_; have BK319 := n4_; have HB := n5_; clear n0_ n1_ n2_ n3_ n4_ n5_; (try clear hb); (try clear hb2); (try clear hk); (try clear hi); (try clear ho0); obtain ⟨Ao70, co70, eo70⟩ := Kd.R_slice HO331.out; subst eo70; obtain ⟨Ao71, co71, eo71⟩ := Kd.R_slice HO334.out; subst eo71) | (go_at_call 14; (with_reducible refine (r11_Same.calls k _ _ t329 _ _ t332 true _ ?side1 ?side2 ?side3 ?side4 A19.out).mono ?_); (case side1 => repeat (first | exact (Kd.R_reads' HO331.out).2.2 | (with_reducible refine Kd.C_alloc ?_ _) | (with_reducible refine Kd.C_drewN ?_ _) | (with_reducible refine Kd.C_drew ?_))); (case side2 => exact (Kd.R_reads' HO331.out).2.1); (case side3 => repeat (first | exact (Kd.R_reads' HO334.out).2.2 | (with_reducible refine Kd.C_alloc ?_ _) | (with_reducible refine Kd.C_drewN ?_ _) | (with_reducible refine Kd.C_drew ?_))); (case side4 => exact (Kd.R_reads' HO334.out).2.1); rintro e w' ⟨rfl, ⟨nd, rfl⟩⟩; obtain ⟨Ao72, co72, eo72⟩ := Kd.R_slice HO326.out; subst eo72) | (go_at_call 17; (with_reducible refine (span_Union.calls _ _ t321 _ _ t324 t336 _ ?side1 ?side2 ?side3 ?side4 A21.out).mono ?_); (case side1 => repeat (first | exact (Kd.R_reads' HO323.out).2.2 | (with_reducible refine Kd.C_alloc ?_ _) | (with_reducible refine Kd.C_drewN ?_ _) | (with_reducible refine Kd.C_drew ?_))); (case side2 => exact (Kd.R_reads' HO323.out).2.1); (case side3 => repeat (first | exact (Kd.R_reads' HO326.out).2.2 | (with_reducible refine Kd.C_alloc ?_ _) | (with_reducible refine Kd.C_drewN ?_ _) | (with_reducible refine Kd.C_drew ?_))); (case side4 => exact (Kd.R_reads' HO326.out).2.1); rintro e w73 ⟨v337, rfl, ho0, hb⟩; have n0_ := Aside0.mk (Kd.R_elder' (rZ HO323.out) (Kd.R_base ho0) hb); have n1_ := Aside0.mk (Kd.R_elder' (rZ HO326.out) (Kd.R_base ho0) hb); have n2_ := Aside0.mk (Kd.R_elder' (rZ HO331.out) (Kd.R_base ho0) hb); have n3_ := Aside0.mk (Kd.R_elder' (rZ HO334.out) (Kd.R_base ho0) hb); have n4_ := Aside0.mk (Kd.R_lower (Kd.R_new' (Kd.R_new' (Kd.R_new' (Kd.R_new' ho0 (Kd.R_lt (rZ HO323.out))) (Kd.R_lt (rZ HO326.out))) (Kd.R_lt (rZ HO331.out))) (Kd.R_lt (rZ HO334.out))) (below_size (by repeat (first | (with_reducible first | exact HB.out | apply below_alloc | apply pw_below_drewN | apply below_drew1 | refine below_set ?_ GE319.out) | exact HB.out)))); have n5_ := Aside0.mk (blk_below (g := gb319) (o := .cells #[.int .i64 a2_0, .int .i64 a2_1, .int .i64 a2_2, .slice A2_3 l2_3.length c2_3] 27 (0, 0)) (by (with_reducible repeat (first | refine blk_drewN ?_ _ | refine blk_drew ?_ | refine blk_alloc ?_ _)); exact BK319.out) hb); have n6_ := Aside0.mk (below_step (by repeat (first | (with_reducible first | exact HB.out | apply below_alloc | apply pw_below_drewN | apply below_drew1 | refine below_set ?_ GE319.out) | exact HB.out)) hb); clear HO323; clear HO326; clear HO331; clear HO334; clear BK319; clear HB; have HO323 := n0_; have HO326 := n1_; have HO331 := n2_; have HO334 := n3_; have HO338 := n4_; have BK319 := n5_; have HB := n6_; clear n0_ n1_ n2_ n3_ n4_ n5_ n6_; (try clear hb); (try clear hb2); (try clear hk); (try clear hi); (try clear ho0)) | (go_at_call 18; (with_reducible refine (r11_Union.calls k _ _ t321 _ _ t324 t339 _ ?side1 ?side2 ?side3 ?side4 A22.out).mono ?_); (case side1 => repeat (first | exact (Kd.R_reads' HO323.out).2.2 | (with_reducible refine Kd.C_alloc ?_ _) | (with_reducible refine Kd.C_drewN ?_ _) | (with_reducible refine Kd.C_drew ?_))); (case side2 => exact (Kd.R_reads' HO323.out).2.1); (case side3 => repeat (first | exact (Kd.R_reads' HO326.out).2.2 | (with_reducible refine Kd.C_alloc ?_ _) | (with_reducible refine Kd.C_drewN ?_ _) | (with_reducible refine Kd.C_drew ?_))); (case side4 => exact (Kd.R_reads' HO326.out).2.1); rintro e w74 ⟨v340, rfl, ho0, hb⟩; have n0_ := Aside0.mk (Kd.R_elder' (rZ HO323.out) (Kd.R_base ho0) hb); have n1_ := Aside0.mk (Kd.R_elder' (rZ HO326.out) (Kd.R_base ho0) hb); have n2_ := Aside0.mk (Kd.R_elder' (rZ HO331.out) (Kd.R_base ho0) hb); have n3_ := Aside0.mk (Kd.R_elder' (rZ HO334.out) (Kd.R_base ho0) hb); have n4_ := Aside0.mk (Kd.R_elder' (rZ HO338.out) (Kd.R_base ho0) hb); have n5_ := Aside0.mk (Kd.R_lower (Kd.R_new' (Kd.R_new' (Kd.R_new' (Kd.R_new' (Kd.R_new' ho0 (Kd.R_lt (rZ HO323.out))) (Kd.R_lt (rZ HO326.out))) (Kd.R_lt (rZ HO331.out))) (Kd.R_lt (rZ HO334.out))) (Kd.R_lt (rZ HO338.out))) (below_size (by repeat (first | (with_reducible first | exact HB.out | apply below_alloc | apply pw_below_drewN | apply below_drew1 | refine below_set ?_ GE319.out) | exact HB.out)))); have n6_ := Aside0.mk (blk_below (g := gb319) (o := .cells #[.int .i64 a2_0, .int .i64 a2_1, .int .i64 a2_2, .slice A2_3 l2_3.length c2_3] 27 (0, 0)) (by (with_reducible repeat (first | refine blk_drewN ?_ _ | refine blk_drew ?_ | refine blk_alloc ?_ _)); exact BK319.out) hb); have n7_ := Aside0.mk (below_step (by repeat (first | (with_reducible first | exact HB.out | apply below_alloc | apply pw_below_drewN | apply below_drew1 | refine below_set ?_ GE319.out) | exact HB.out)) hb); clear HO323; clear HO326; clear HO331; clear HO334; clear HO338; clear BK319; clear HB; have HO323 := n0_; have HO326 := n1_; have HO331 := n2_; have HO334 := n3_; have HO338 := n4_; have HO341 := n5_; have BK319 := n6_; have HB := n7_; clear n0_ n1_ n2_ n3_ n4_ n5_ n6_ n7_; (try clear hb); (try clear hb2); (try clear hk); (try clear hi); (try clear ho0); obtain ⟨Ao75, co75, eo75⟩ := Kd.R_slice HO338.out; subst eo75; obtain ⟨Ao76, co76, eo76⟩ := Kd.R_slice HO341.out; subst eo76) | (go_at_call 14; (with_reducible refine (r11_Same.calls k _ _ t336 _ _ t339 false _ ?side1 ?side2 ?side3 ?side4 A23.out).mono ?_); (case side1 => repeat (first | exact (Kd.R_reads' HO338.out).2.2 | (with_reducible refine Kd.C_alloc ?_ _) | (with_reducible refine Kd.C_drewN ?_ _) | (with_reducible refine Kd.C_drew ?_))); (case side2 => exact (Kd.R_reads' HO338.out).2.1); (case side3 => repeat (first | exact (Kd.R_reads' HO341.out).2.2 | (with_reducible refine Kd.C_alloc ?_ _) | (with_reducible refine Kd.C_drewN ?_ _) | (with_reducible refine Kd.C_drew ?_))); (case side4 => exact (Kd.R_reads' HO341.out).2.1); rintro e w' ⟨rfl, ⟨nd, rfl⟩⟩))
     go_meet
     case rel => exact ⟨_, (true), (by first | rfl | (simp; done) | (simp [*]; done)), H', ⟨by first | omega | exact Nat.le_refl _⟩, ⟨by (with_reducible repeat (first | apply Kd.R_alloc | apply Kd.R_drewN | apply Kd.R_drew)); exact Kd.R_mono HO323.out (fun _ hk => trivial)⟩, ⟨by (with_reducible repeat (first | refine blk_drewN ?_ _ | refine blk_drew ?_ | refine blk_alloc ?_ _)); exact BK319.out⟩, ⟨by repeat (first | (with_reducible first | exact HB.out | apply below_alloc | apply pw_below_drewN | apply below_drew1 | refine below_set ?_ GE319.out) | exact HB.out)⟩⟩
   ·replace c20 := Bool.eq_false_iff.mpr c20
    subst c20
    have H1 : (l11_SpanMatchesReference.j0 k t320 t321 true a2_0 a2_1 a2_2 l2_3) = some r := by rw [if_neg (show ¬ (false = true) by decide)] at H; exact H
    clear H
    have H := H1
    clear H1
    have H' := Aside0.mk H
    clear H
    obtain ⟨Ao77, co77, eo77⟩ := Kd.R_slice HO323.out
    subst eo77
    go_wp2_with (first | ((with_reducible refine gate_callee (f := 12) rfl ?_); refine goesL_ (some 17) rfl rfl Try.func12 (by kernel_rfl) rfl #[.slice Ao77 t321.length co77] rfl (by (try simp only [List.map_toArray, List.map_cons, List.map_nil]); first | done | rfl | (simp only [List.length_drop, List.length_take]; rfl)) ?_; (with_reducible refine (span_Valid.calls k _ _ t321 t327 _ ?side1 ?side2 A12.out).mono ?_); (case side1 => repeat (first | exact (Kd.R_reads' HO323.out).2.2 | (with_reducible refine Kd.C_alloc ?_ _) | (with_reducible refine Kd.C_drewN ?_ _) | (with_reducible refine Kd.C_drew ?_))); (case side2 => exact (Kd.R_reads' HO323.out).2.1); rintro e w78 ⟨rfl, hb⟩; refine ⟨_, rfl, ?_⟩; have n0_ := Aside0.mk (Kd.R_below (rZ HO323.out) hb); have n1_ := Aside0.mk (Kd.R_below (rZ HO326.out) hb); have n2_ := Aside0.mk (blk_below (g := gb319) (o := .cells #[.int .i64 a2_0, .int .i64 a2_1, .int .i64 a2_2, .slice A2_3 l2_3.length c2_3] 27 (0, 0)) (by (with_reducible repeat (first | refine blk_drewN ?_ _ | refine blk_drew ?_ | refine blk_alloc ?_ _)); exact BK319.out) hb); have n3_ := Aside0.mk (below_step (by repeat (first | (with_reducible first | exact HB.out | apply below_alloc | apply pw_below_drewN | apply below_drew1 | refine below_set ?_ GE319.out) | exact HB.out)) hb); clear HO323; clear HO326; clear BK319; clear HB; have HO323 := n0_; have HO326 := n1_; have BK319 := n2_; have HB := n3_; clear n0_ n1_ n2_ n3_; (try clear hb); (try clear hb2); (try clear hk); (try clear hi)) | ((with_reducible refine gate_callee (f := 13) rfl ?_); refine goesL_ (some 19) rfl rfl Try.func13 (by kernel_rfl) rfl #[.slice Ao77 t321.length co77] rfl (by (try simp only [List.map_toArray, List.map_cons, List.map_nil]); first | done | rfl | (simp only [List.length_drop, List.length_take]; rfl)) ?_; (with_reducible refine (r11_Valid.calls k _ _ t321 t328 _ ?side1 ?side2 A13.out).mono ?_); (case side1 => repeat (first | exact (Kd.R_reads' HO323.out).2.2 | (with_reducible refine Kd.C_alloc ?_ _) | (with_reducible refine Kd.C_drewN ?_ _) | (with_reducible refine Kd.C_drew ?_))); (case side2 => exact (Kd.R_reads' HO323.out).2.1); rintro e w' ⟨rfl, ⟨nd, rfl⟩⟩; refine ⟨_, rfl, ?_⟩) | (go_at_call 15; (with_reducible refine (span_Norm.calls _ _ t321 t329 _ ?side1 ?side2 A17.out).mono ?_); (case side1 => repeat (first | exact (Kd.R_reads' HO323.out).2.2 | (with_reducible refine Kd.C_alloc ?_ _) | (with_reducible refine Kd.C_drewN ?_ _) | (with_reducible refine Kd.C_drew ?_))); (case side2 => exact (Kd.R_reads' HO323.out).2.1); rintro e w79 ⟨v330, rfl, ho0, hb⟩; have n0_ := Aside0.mk (Kd.R_elder' (rZ HO323.out) (Kd.R_base ho0) hb); have n1_ := Aside0.mk (Kd.R_elder' (rZ HO326.out) (Kd.R_base ho0) hb); have n2_ := Aside0.mk (Kd.R_lower (Kd.R_new' (Kd.R_new' ho0 (Kd.R_lt (rZ HO323.out))) (Kd.R_lt (rZ HO326.out))) (below_size (by repeat (first | (with_reducible first | exact HB.out | apply below_alloc | apply pw_below_drewN | apply below_drew1 | refine below_set ?_ GE319.out) | exact HB.out)))); have n3_ := Aside0.mk (blk_below (g := gb319) (o := .cells #[.int .i64 a2_0, .int .i64 a2_1, .int .i64 a2_2, .slice A2_3 l2_3.length c2_3] 27 (0, 0)) (by (with_reducible repeat (first | refine blk_drewN ?_ _ | refine blk_drew ?_ | refine blk_alloc ?_ _)); exact BK319.out) hb); have n4_ := Aside0.mk (below_step (by repeat (first | (with_reducible first | exact HB.out | apply below_alloc | apply pw_below_drewN | apply below_drew1 | refine below_set ?_ GE319.out) | exact HB.out)) hb); clear HO323; clear HO326; clear BK319; clear HB; have HO323 := n0_; have HO326 := n1_; have HO331 := n2_; have BK319 := n3_; have HB := n4_; clear n0_ n1_ n2_ n3_ n4_; (try clear hb); (try clear hb2); (try clear hk); (try clear hi); (try clear ho0)) | (go_at_call 16; (with_reducible refine (r11_Norm.calls k _ _ t321 t332 _ ?side1 ?side2 A18.out).mono ?_); (case side1 => repeat (first | exact (Kd.R_reads' HO323.out).2.2 | (with_reducible refine Kd.C_alloc ?_ _) | (with_reducible refine Kd.C_drewN ?_ _) | (with_reducible refine Kd.C_drew ?_))); (case side2 => exact (Kd.R_reads' HO323.out).2.1); rintro e w80 ⟨v333, rfl, ho0, hb⟩; have n0_ := Aside0.mk (Kd.R_elder' (rZ HO323.out) (Kd.R_base ho0) hb); have n1_ := Aside0.mk (Kd.R_elder' (rZ HO326.out) (Kd.R_base ho0) hb); have n2_ := Aside0.mk (Kd.R_elder' (rZ HO331.out) (Kd.R_base ho0) hb); have n3_ := Aside0.mk (Kd.R_lower (Kd.R_new' (Kd.R_new' (Kd.R_new' ho0 (Kd.R_lt (rZ HO323.out))) (Kd.R_lt (rZ HO326.out))) (Kd.R_lt (rZ HO331.out))) (below_size (by repeat (first | (with_reducible first | exact HB.out | apply below_alloc | apply pw_below_drewN | apply below_drew1 | refine below_set ?_ GE319.out) | exact HB.out)))); have n4_ := Aside0.mk (blk_below (g := gb319) (o := .cells #[.int .i64 a2_0, .int .i64 a2_1, .int .i64 a2_2, .slice A2_3 l2_3.length c2_3] 27 (0, 0)) (by (with_reducible repeat (first | refine blk_drewN ?_ _ | refine blk_drew ?_ | refine blk_alloc ?_ _)); exact BK319.out) hb); have n5_ := Aside0.mk (below_step (by repeat (first | (with_reducible first | exact HB.out | apply below_alloc | apply pw_below_drewN | apply below_drew1 | refine below_set ?_ GE319.out) | exact HB.out)) hb); clear HO323; clear HO326; clear HO331; clear BK319; clear HB; have HO323 := n0_; have HO326 := n1_; have HO331 := n2_; have HO334 := n3_; have BK319 := n4_; have HB := n5_; clear n0_ n1_ n2_ n3_ n4_ n5_; (try clear hb); (try clear hb2); (try clear hk); (try clear hi); (try clear ho0); obtain ⟨Ao81, co81, eo81⟩ := Kd.R_slice HO331.out; subst eo81; obtain ⟨Ao82, co82, eo82⟩ := Kd.R_slice HO334.out; subst eo82) | (go_at_call 14; (with_reducible refine (r11_Same.calls k _ _ t329 _ _ t332 false _ ?side1 ?side2 ?side3 ?side4 A19.out).mono ?_); (case side1 => repeat (first | exact (Kd.R_reads' HO331.out).2.2 | (with_reducible refine Kd.C_alloc ?_ _) | (with_reducible refine Kd.C_drewN ?_ _) | (with_reducible refine Kd.C_drew ?_))); (case side2 => exact (Kd.R_reads' HO331.out).2.1); (case side3 => repeat (first | exact (Kd.R_reads' HO334.out).2.2 | (with_reducible refine Kd.C_alloc ?_ _) | (with_reducible refine Kd.C_drewN ?_ _) | (with_reducible refine Kd.C_drew ?_))); (case side4 => exact (Kd.R_reads' HO334.out).2.1); rintro e w' ⟨rfl, ⟨nd, rfl⟩⟩))
    go_meet
    case rel => exact ⟨_, (true), (by first | rfl | (simp; done) | (simp [*]; done)), H', ⟨by first | omega | exact Nat.le_refl _⟩, ⟨by (with_reducible repeat (first | apply Kd.R_alloc | apply Kd.R_drewN | apply Kd.R_drew)); exact Kd.R_mono HO323.out (fun _ hk => trivial)⟩, ⟨by (with_reducible repeat (first | refine blk_drewN ?_ _ | refine blk_drew ?_ | refine blk_alloc ?_ _)); exact BK319.out⟩, ⟨by repeat (first | (with_reducible first | exact HB.out | apply below_alloc | apply pw_below_drewN | apply below_drew1 | refine below_set ?_ GE319.out) | exact HB.out)⟩⟩
 case rest =>
  clear HC7
  try clear c1
  try clear c2
  try clear p2
  try clear c3
  try clear c10
  try clear c11
  try clear c12
  try clear c13
  try clear c14
  try clear c14b0
  try clear c14b1
  try clear c14b2
  try clear c20
  try clear c24
  try clear c28
  obtain ⟨kq, x58_6, rfl, HA, HJ6, HO_8, BK319, HB⟩ := hcut
  cases kq with
  | zero => exact absurd HA.out (by simp [l11_SpanMatchesReference.j0])
  | succ kj6 =>
   have H := HA.out
   clear HA
   simp only [l11_SpanMatchesReference.j0] at H
   by_cases c83 : x58_6 = true
   ·subst c83
    have H1 : (some false) = some r := by rw [if_pos rfl] at H; exact H
    clear H
    have H := H1
    clear H1
    exact absurd ((Option.some.inj H).trans HLAW.out) (by decide)
   ·replace c83 := Bool.eq_false_iff.mpr c83
    subst c83
    have H1 : ((r11_Made.f kj6 l2_3).bind fun t357 => ((span_Has.f t321 a2_0).bind fun t360 => ((r11_Has.f kj6 t321 a2_0).bind fun t361 => (if (t360 == t361) = true then ((span_Covers.f t321 a2_1 a2_2).bind fun t362 => ((r11_Covers.f kj6 t321 a2_1 a2_2).bind fun t363 => (if (t362 == t363) = true then ((span_Covers.f t357 a2_1 a2_2).bind fun t364 => ((r11_Covers.f kj6 t357 a2_1 a2_2).bind fun t365 => (if (t364 == t365) = true then ((span_Total.f kj6 t357).bind fun t366 => ((r11_Total.f kj6 t357).bind fun t367 => (if t366 = t367 then (some t320) else (some false)))) else (some false)))) else (some false)))) else (some false))))) = some r := by rw [if_neg (show ¬ (false = true) by decide)] at H; exact H
    clear H
    have H := H1
    clear H1
    replace H := Option.bind_eq_some_iff.mp H
    obtain ⟨t357, A840, H⟩ := H
    replace H : ((span_Has.f t321 a2_0).bind fun t360 => ((r11_Has.f kj6 t321 a2_0).bind fun t361 => (if (t360 == t361) = true then ((span_Covers.f t321 a2_1 a2_2).bind fun t362 => ((r11_Covers.f kj6 t321 a2_1 a2_2).bind fun t363 => (if (t362 == t363) = true then ((span_Covers.f t357 a2_1 a2_2).bind fun t364 => ((r11_Covers.f kj6 t357 a2_1 a2_2).bind fun t365 => (if (t364 == t365) = true then ((span_Total.f kj6 t357).bind fun t366 => ((r11_Total.f kj6 t357).bind fun t367 => (if t366 = t367 then (some t320) else (some false)))) else (some false)))) else (some false)))) else (some false)))) = some r := H
    have A84 := Aside0.mk A840
    clear A840
    replace H := Option.bind_eq_some_iff.mp H
    obtain ⟨t360, A850, H⟩ := H
    replace H : ((r11_Has.f kj6 t321 a2_0).bind fun t361 => (if (t360 == t361) = true then ((span_Covers.f t321 a2_1 a2_2).bind fun t362 => ((r11_Covers.f kj6 t321 a2_1 a2_2).bind fun t363 => (if (t362 == t363) = true then ((span_Covers.f t357 a2_1 a2_2).bind fun t364 => ((r11_Covers.f kj6 t357 a2_1 a2_2).bind fun t365 => (if (t364 == t365) = true then ((span_Total.f kj6 t357).bind fun t366 => ((r11_Total.f kj6 t357).bind fun t367 => (if t366 = t367 then (some t320) else (some false)))) else (some false)))) else (some false)))) else (some false))) = some r := H
    have A85 := Aside0.mk A850
    clear A850
    replace H := Option.bind_eq_some_iff.mp H
    obtain ⟨t361, A860, H⟩ := H
    replace H : (if (t360 == t361) = true then ((span_Covers.f t321 a2_1 a2_2).bind fun t362 => ((r11_Covers.f kj6 t321 a2_1 a2_2).bind fun t363 => (if (t362 == t363) = true then ((span_Covers.f t357 a2_1 a2_2).bind fun t364 => ((r11_Covers.f kj6 t357 a2_1 a2_2).bind fun t365 => (if (t364 == t365) = true then ((span_Total.f kj6 t357).bind fun t366 => ((r11_Total.f kj6 t357).bind fun t367 => (if t366 = t367 then (some t320) else (some false)))) else (some false)))) else (some false)))) else (some false)) = some r := H
    have A86 := Aside0.mk A860
    clear A860
    by_cases c87 : (t360 == t361) = true
    ·rw [if_pos c87] at H
     have c87b0 : (t360 == t361) = true := c87
     (try (have c87b1 : decide (t360 = t361) = true := by simpa using c87))
     (try (have c87b2 : (t360 == t361) = true := by simpa using c87))
     clear c87
     replace H := Option.bind_eq_some_iff.mp H
     obtain ⟨t362, A880, H⟩ := H
     replace H : ((r11_Covers.f kj6 t321 a2_1 a2_2).bind fun t363 => (if (t362 == t363) = true then ((span_Covers.f t357 a2_1 a2_2).bind fun t364 => ((r11_Covers.f kj6 t357 a2_1 a2_2).bind fun t365 => (if (t364 == t365) = true then ((span_Total.f kj6 t357).bind fun t366 => ((r11_Total.f kj6 t357).bind fun t367 => (if t366 = t367 then (some t320) else (some false)))) else (some false)))) else (some false))) = some r := H
     have A88 := Aside0.mk A880
     clear A880
     replace H := Option.bind_eq_some_iff.mp H
     obtain ⟨t363, A890, H⟩ := H
     replace H : (if (t362 == t363) = true then ((span_Covers.f t357 a2_1 a2_2).bind fun t364 => ((r11_Covers.f kj6 t357 a2_1 a2_2).bind fun t365 => (if (t364 == t365) = true then ((span_Total.f kj6 t357).bind fun t366 => ((r11_Total.f kj6 t357).bind fun t367 => (if t366 = t367 then (some t320) else (some false)))) else (some false)))) else (some false)) = some r := H
     have A89 := Aside0.mk A890
     clear A890
     by_cases c90 : (t362 == t363) = true
     ·rw [if_pos c90] at H
      have c90b0 : (t362 == t363) = true := c90
      (try (have c90b1 : decide (t362 = t363) = true := by simpa using c90))
      (try (have c90b2 : (t362 == t363) = true := by simpa using c90))
      clear c90
      replace H := Option.bind_eq_some_iff.mp H
      obtain ⟨t364, A910, H⟩ := H
      replace H : ((r11_Covers.f kj6 t357 a2_1 a2_2).bind fun t365 => (if (t364 == t365) = true then ((span_Total.f kj6 t357).bind fun t366 => ((r11_Total.f kj6 t357).bind fun t367 => (if t366 = t367 then (some t320) else (some false)))) else (some false))) = some r := H
      have A91 := Aside0.mk A910
      clear A910
      replace H := Option.bind_eq_some_iff.mp H
      obtain ⟨t365, A920, H⟩ := H
      replace H : (if (t364 == t365) = true then ((span_Total.f kj6 t357).bind fun t366 => ((r11_Total.f kj6 t357).bind fun t367 => (if t366 = t367 then (some t320) else (some false)))) else (some false)) = some r := H
      have A92 := Aside0.mk A920
      clear A920
      by_cases c93 : (t364 == t365) = true
      ·rw [if_pos c93] at H
       have c93b0 : (t364 == t365) = true := c93
       (try (have c93b1 : decide (t364 = t365) = true := by simpa using c93))
       (try (have c93b2 : (t364 == t365) = true := by simpa using c93))
       clear c93
       replace H := Option.bind_eq_some_iff.mp H
       obtain ⟨t366, A940, H⟩ := H
       replace H : ((r11_Total.f kj6 t357).bind fun t367 => (if t366 = t367 then (some t320) else (some false))) = some r := H
       have A94 := Aside0.mk A940
       clear A940
       replace H := Option.bind_eq_some_iff.mp H
       obtain ⟨t367, A950, H⟩ := H
       replace H : (if t366 = t367 then (some t320) else (some false)) = some r := H
       have A95 := Aside0.mk A950
       clear A950
       by_cases c96 : t366 = t367
       ·rw [if_pos c96] at H
        have c96b0 : (t366 == t367) = true := beq_iff_eq.mpr c96
        have c96b1 : (t366 != t367) = false := bne_eq_false_iff_eq.mpr c96
        clear c96
        clear HLAW
        obtain rfl := Option.some.inj H
        have hcz97_0 : wc.cell? ⟨gb319, 0, none⟩ = some (.int .i64 a2_0) := (blk_cell BK319.out 0).trans rfl
        have hcz97_1 : wc.cell? ⟨gb319, 1, none⟩ = some (.int .i64 a2_1) := (blk_cell BK319.out 1).trans rfl
        have hcz97_2 : wc.cell? ⟨gb319, 2, none⟩ = some (.int .i64 a2_2) := (blk_cell BK319.out 2).trans rfl
        have hcz97_3 : wc.cell? ⟨gb319, 3, none⟩ = some (.slice A2_3 l2_3.length c2_3) := (blk_cell BK319.out 3).trans rfl
        have hfz97_0 := blk_frozen BK319.out 0
        have hfz97_1 := blk_frozen BK319.out 1
        have hfz97_2 := blk_frozen BK319.out 2
        have hfz97_3 := blk_frozen BK319.out 3
        try go_wp2_with (first | ((with_reducible refine gate_callee (f := 23) rfl ?_); refine goesL_ (some 61) rfl rfl Try.func23 (by kernel_rfl) rfl #[.slice A2_3 l2_3.length c2_3] rfl (by (try simp only [List.map_toArray, List.map_cons, List.map_nil]); first | done | rfl | (simp only [List.length_drop, List.length_take]; rfl)) ?_; (with_reducible refine (r11_Made.calls kj6 _ _ l2_3 t357 _ ?side1 ?side2 A84.out).mono ?_); (case side1 => repeat (first | exact (Kd.C_below HR2_3.out HB.out) | (with_reducible refine Kd.C_alloc ?_ _) | (with_reducible refine Kd.C_drewN ?_ _) | (with_reducible refine Kd.C_drew ?_))); (case side2 => exact HC2_3.out); rintro e w98 ⟨v358, rfl, ho0, hb⟩; refine ⟨_, rfl, ?_⟩; have n0_ := Aside0.mk (Kd.R_elder' (rZ HO_8.out) (Kd.R_base ho0) hb); have n1_ := Aside0.mk (Kd.R_lower (Kd.R_new' ho0 (Kd.R_lt (rZ HO_8.out))) (below_size (by repeat (first | (with_reducible first | exact HB.out | apply below_alloc | apply pw_below_drewN | apply below_drew1 | refine below_set ?_ GE319.out) | exact HB.out)))); have n2_ := Aside0.mk (blk_below (g := gb319) (o := .cells #[.int .i64 a2_0, .int .i64 a2_1, .int .i64 a2_2, .slice A2_3 l2_3.length c2_3] 27 (0, 0)) (by (with_reducible repeat (first | refine blk_drewN ?_ _ | refine blk_drew ?_ | refine blk_alloc ?_ _)); exact BK319.out) hb); have n3_ := Aside0.mk (below_step (by repeat (first | (with_reducible first | exact HB.out | apply below_alloc | apply pw_below_drewN | apply below_drew1 | refine below_set ?_ GE319.out) | exact HB.out)) hb); clear HO_8; clear BK319; clear HB; have HO_8 := n0_; have HO359 := n1_; have BK319 := n2_; have HB := n3_; clear n0_ n1_ n2_ n3_; (try clear hb); (try clear hb2); (try clear hk); (try clear hi); (try clear ho0)))
        have n0_ := Aside0.mk (Kd.R_drew HO_8.out)
        have n1_ := Aside0.mk (Kd.R_drew HO359.out)
        have n2_ := Aside0.mk (blk_drew BK319.out)
        have n3_ := Aside0.mk (below_drew1 HB.out)
        clear HO_8
        clear HO359
        clear BK319
        clear HB
        have HO_8 := n0_
        have HO359 := n1_
        have BK319 := n2_
        have HB := n3_
        clear n0_ n1_ n2_ n3_
        obtain ⟨Ao100, co100, eo100⟩ := Kd.R_slice HO_8.out
        (first | subst eo100 | (injection eo100 with f1_ f2_ f3_; have f4_ := f1_.symm; have f5_ := f3_.symm; clear f1_ f2_ f3_; subst f4_; subst f5_))
        refine start_ (n := 42) (S := fun w' => w'.cell? ⟨gb319, 0, none⟩ = some (.int .i64 a2_0) ∧ w'.cell? ⟨gb319, 1, none⟩ = some (.int .i64 a2_1) ∧ w'.cell? ⟨gb319, 2, none⟩ = some (.int .i64 a2_2) ∧ w'.cell? ⟨gb319, 3, none⟩ = some (.slice A2_3 l2_3.length c2_3)) (ds := []) #[false, false, false, false, false, false, false, false, false, false, false, false, false, false, false, false, false, false, false, false, false, false, false, false, false, false, false, false, false, false, false, false, false, false, false, false, false, false, false, false, false, false] (by kernel_rfl) rfl rfl ⟨(blk_cell BK319.out 0).trans rfl, (blk_cell BK319.out 1).trans rfl, (blk_cell BK319.out 2).trans rfl, (blk_cell BK319.out 3).trans rfl⟩ (fun hHeld => ?_); refine with_tabW l11_SpanMatchesReference.tab6 l11_SpanMatchesReference.bits6 (fun HT_ HW_ => ?_)
        generalize w98.drew = w99 at HO_8 HO359 BK319 HB hHeld ⊢
        refine pure_ (i := 0) (N := some 62) (v := ?_) (a' := ?_) #[true, false, false, false, false, false, false, false, false, false, false, false, false, false, false, false, false, false, false, false, false, false, false, false, false, false, false, false, false, false, false, false, false, false, false, false, false, false, false, false, false, false] rfl rfl (any_of HT_.out (by kernel_rfl)) (fun _ _ _ h => h) (Or.inl ⟨by rfl, ?_⟩) ?_ ?_
        rotate_left
        ·intro w'
         go_simp
         with_reducible rfl
        rotate_left
        ·simp only [Act.put, List.setIfInBounds_toArray, List.set_cons_zero, List.set_cons_succ, i64_w, i32_w]
         rfl
        refine pure_ (i := 1) (N := some 63) (v := ?_) (a' := ?_) #[true, true, false, false, false, false, false, false, false, false, false, false, false, false, false, false, false, false, false, false, false, false, false, false, false, false, false, false, false, false, false, false, false, false, false, false, false, false, false, false, false, false] rfl rfl (any_of HT_.out (by kernel_rfl)) (fun _ _ _ h => h) (Or.inl ⟨by rfl, ?_⟩) ?_ ?_
        rotate_left
        ·intro w'
         go_simp
         with_reducible rfl
        rotate_left
        ·simp only [Act.put, List.setIfInBounds_toArray, List.set_cons_zero, List.set_cons_succ, i64_w, i32_w]
         rfl
        refine pure_ (i := 4) (N := some 66) (v := ?_) (a' := ?_) #[true, true, false, false, true, false, false, false, false, false, false, false, false, false, false, false, false, false, false, false, false, false, false, false, false, false, false, false, false, false, false, false, false, false, false, false, false, false, false, false, false, false] rfl rfl (any_of HT_.out (by kernel_rfl)) (fun _ _ _ h => h) (Or.inl ⟨by rfl, ?_⟩) ?_ ?_
        rotate_left
        ·intro w'
         go_simp
         with_reducible rfl
        rotate_left
        ·simp only [Act.put, List.setIfInBounds_toArray, List.set_cons_zero, List.set_cons_succ, i64_w, i32_w]
         rfl
        refine pure_ (i := 5) (N := some 67) (v := ?_) (a' := ?_) #[true, true, false, false, true, true, false, false, false, false, false, false, false, false, false, false, false, false, false, false, false, false, false, false, false, false, false, false, false, false, false, false, false, false, false, false, false, false, false, false, false, false] rfl rfl (any_of HT_.out (by kernel_rfl)) (fun _ _ _ h => h) (Or.inl ⟨by rfl, ?_⟩) ?_ ?_
        rotate_left
        ·intro w'
         go_simp
         with_reducible rfl
        rotate_left
        ·simp only [Act.put, List.setIfInBounds_toArray, List.set_cons_zero, List.set_cons_succ, i64_w, i32_w]
         rfl
        refine take_ (i := 2) (N := some 64) (v := ?_) (a' := ?_) #[true, true, true, false, true, true, false, false, false, false, false, false, false, false, false, false, false, false, false, false, false, false, false, false, false, false, false, false, false, false, false, false, false, false, false, false, false, false, false, false, false, false] rfl rfl (take_ofW HT_.out HW_.out (by kernel_rfl)) (fun _ _ _ h => h) (Or.inl ⟨by rfl, ?_⟩) hHeld ?_ ?_
        rotate_left
        ·rintro w' ⟨s0, s1, s2, s3⟩
         go_simp
         with_reducible rfl
        rotate_left
        ·simp only [Act.put, List.setIfInBounds_toArray, List.set_cons_zero, List.set_cons_succ, i64_w, i32_w]
         rfl
        refine take_ (i := 6) (N := some 68) (v := ?_) (a' := ?_) #[true, true, true, false, true, true, true, false, false, false, false, false, false, false, false, false, false, false, false, false, false, false, false, false, false, false, false, false, false, false, false, false, false, false, false, false, false, false, false, false, false, false] rfl rfl (take_ofW HT_.out HW_.out (by kernel_rfl)) (fun _ _ _ h => h) (Or.inl ⟨by rfl, ?_⟩) hHeld ?_ ?_
        rotate_left
        ·rintro w' ⟨s0, s1, s2, s3⟩
         go_simp
         with_reducible rfl
        rotate_left
        ·simp only [Act.put, List.setIfInBounds_toArray, List.set_cons_zero, List.set_cons_succ, i64_w, i32_w]
         rfl
        refine one_ (i := 3) (N := some 65) #[true, true, true, true, true, true, true, false, false, false, false, false, false, false, false, false, false, false, false, false, false, false, false, false, false, false, false, false, false, false, false, false, false, false, false, false, false, false, false, false, false, false] rfl rfl (one_of HT_.out (by kernel_rfl)) (by decide) (fun K hK => ?_)
        refine goes_ Try.func24 (by kernel_rfl) rfl #[.slice Ao100 t321.length co100, .int .i64 a2_0] (by rfl) rfl rfl (by (try simp only [List.map_toArray, List.map_cons, List.map_nil]); first | done | rfl | (simp only [List.length_drop, List.length_take]; rfl)) ?_
        with_reducible refine (span_Has.calls _ _ t321 a2_0 t360 _ ?side1 ?side2 A85.out).mono ?_
        (case side1 => repeat (first | exact (Kd.R_reads' HO_8.out).2.2 | (with_reducible refine Kd.C_alloc ?_ _) | (with_reducible refine Kd.C_drewN ?_ _) | (with_reducible refine Kd.C_drew ?_)))
        (case side2 => exact (Kd.R_reads' HO_8.out).2.1)
        rintro e w101 ⟨rfl, hb⟩
        refine ⟨_, rfl, ?_⟩
        have n0_ := Aside0.mk (Kd.R_below (rZ HO_8.out) hb)
        have n1_ := Aside0.mk (Kd.R_below (rZ HO359.out) hb)
        have n2_ := Aside0.mk (blk_below (g := gb319) (o := .cells #[.int .i64 a2_0, .int .i64 a2_1, .int .i64 a2_2, .slice A2_3 l2_3.length c2_3] 27 (0, 0)) (by (with_reducible repeat (first | refine blk_drewN ?_ _ | refine blk_drew ?_ | refine blk_alloc ?_ _)); exact BK319.out) hb)
        have n3_ := Aside0.mk (below_step (by repeat (first | (with_reducible first | exact HB.out | apply below_alloc | apply pw_below_drewN | apply below_drew1 | refine below_set ?_ GE319.out) | exact HB.out)) hb)
        clear HO_8
        clear HO359
        clear BK319
        clear HB
        have HO_8 := n0_
        have HO359 := n1_
        have BK319 := n2_
        have HB := n3_
        clear n0_ n1_ n2_ n3_
        (try clear hb)
        (try clear hb2)
        (try clear hk)
        (try clear hi)
        refine hK.out _ _ ⟨(blk_cell BK319.out 0).trans rfl, (blk_cell BK319.out 1).trans rfl, (blk_cell BK319.out 2).trans rfl, (blk_cell BK319.out 3).trans rfl⟩ (fun hHeld => ?_)
        clear hK K
        refine norm_ (a' := ?_) ?_ ?_
        rotate_left
        ·show Act.put _ (some 65) _ = _
         simp only [Act.put, List.setIfInBounds_toArray, List.set_cons_zero, List.set_cons_succ, i64_w, i32_w]
         rfl
        refine one_ (i := 7) (N := some 69) #[true, true, true, true, true, true, true, true, false, false, false, false, false, false, false, false, false, false, false, false, false, false, false, false, false, false, false, false, false, false, false, false, false, false, false, false, false, false, false, false, false, false] rfl rfl (one_of HT_.out (by kernel_rfl)) (by decide) (fun K hK => ?_)
        refine goes_ Try.func25 (by kernel_rfl) rfl #[.slice Ao100 t321.length co100, .int .i64 a2_0] (by rfl) rfl rfl (by (try simp only [List.map_toArray, List.map_cons, List.map_nil]); first | done | rfl | (simp only [List.length_drop, List.length_take]; rfl)) ?_
        with_reducible refine (r11_Has.calls kj6 _ _ t321 a2_0 t361 _ ?side1 ?side2 A86.out).mono ?_
        (case side1 => repeat (first | exact (Kd.R_reads' HO_8.out).2.2 | (with_reducible refine Kd.C_alloc ?_ _) | (with_reducible refine Kd.C_drewN ?_ _) | (with_reducible refine Kd.C_drew ?_)))
        (case side2 => exact (Kd.R_reads' HO_8.out).2.1)
        rintro e w' ⟨rfl, ⟨nd, rfl⟩⟩
        refine ⟨_, rfl, ?_⟩
        refine hK.out _ _ ⟨(blk_cell BK319.out 0).trans rfl, (blk_cell BK319.out 1).trans rfl, (blk_cell BK319.out 2).trans rfl, (blk_cell BK319.out 3).trans rfl⟩ (fun hHeld => ?_)
        clear hK K
        refine norm_ (a' := ?_) ?_ ?_
        rotate_left
        ·show Act.put _ (some 69) _ = _
         simp only [Act.put, List.setIfInBounds_toArray, List.set_cons_zero, List.set_cons_succ, i64_w, i32_w]
         rfl
        refine pure_ (i := 8) (N := some 70) (v := ?_) (a' := ?_) #[true, true, true, true, true, true, true, true, true, false, false, false, false, false, false, false, false, false, false, false, false, false, false, false, false, false, false, false, false, false, false, false, false, false, false, false, false, false, false, false, false, false] rfl rfl (any_of HT_.out (by kernel_rfl)) (fun _ _ _ h => h) (Or.inl ⟨by rfl, ?_⟩) ?_ ?_
        rotate_left
        ·intro w'
         go_simp
         with_reducible rfl
        rotate_left
        ·simp only [Act.put, List.setIfInBounds_toArray, List.set_cons_zero, List.set_cons_succ, i64_w, i32_w]
         rfl
        refine pure_ (i := 9) (N := some 71) (v := ?_) (a' := ?_) #[true, true, true, true, true, true, true, true, true, true, false, false, false, false, false, false, false, false, false, false, false, false, false, false, false, false, false, false, false, false, false, false, false, false, false, false, false, false, false, false, false, false] rfl rfl (any_of HT_.out (by kernel_rfl)) (fun _ _ _ h => h) (Or.inl ⟨by rfl, ?_⟩) ?_ ?_
        rotate_left
        ·intro w'
         go_simp
         with_reducible rfl
        rotate_left
        ·simp only [Act.put, List.setIfInBounds_toArray, List.set_cons_zero, List.set_cons_succ, i64_w, i32_w]
         rfl
        refine pure_ (i := 10) (N := some 72) (v := ?_) (a' := ?_) #[true, true, true, true, true, true, true, true, true, true, true, false, false, false, false, false, false, false, false, false, false, false, false, false, false, false, false, false, false, false, false, false, false, false, false, false, false, false, false, false, false, false] rfl rfl (any_of HT_.out (by kernel_rfl)) (fun _ _ _ h => h) (Or.inl ⟨by rfl, ?_⟩) ?_ ?_
        rotate_left
        ·intro w'
         go_simp
         with_reducible rfl
        rotate_left
        ·simp only [Act.put, List.setIfInBounds_toArray, List.set_cons_zero, List.set_cons_succ, i64_w, i32_w]
         rfl
        refine pure_ (i := 11) (N := some 73) (v := ?_) (a' := ?_) #[true, true, true, true, true, true, true, true, true, true, true, true, false, false, false, false, false, false, false, false, false, false, false, false, false, false, false, false, false, false, false, false, false, false, false, false, false, false, false, false, false, false] rfl rfl (any_of HT_.out (by kernel_rfl)) (fun _ _ _ h => h) (Or.inl ⟨by rfl, ?_⟩) ?_ ?_
        rotate_left
        ·intro w'
         go_simp
         with_reducible rfl
        rotate_left
        ·simp only [Act.put, List.setIfInBounds_toArray, List.set_cons_zero, List.set_cons_succ, i64_w, i32_w]
         rfl
        refine pure_ (i := 14) (N := some 76) (v := ?_) (a' := ?_) #[true, true, true, true, true, true, true, true, true, true, true, true, false, false, true, false, false, false, false, false, false, false, false, false, false, false, false, false, false, false, false, false, false, false, false, false, false, false, false, false, false, false] rfl rfl (any_of HT_.out (by kernel_rfl)) (fun _ _ _ h => h) (Or.inl ⟨by rfl, ?_⟩) ?_ ?_
        rotate_left
        ·intro w'
         go_simp
         with_reducible rfl
        rotate_left
        ·simp only [Act.put, List.setIfInBounds_toArray, List.set_cons_zero, List.set_cons_succ, i64_w, i32_w]
         rfl
        refine pure_ (i := 15) (N := some 77) (v := ?_) (a' := ?_) #[true, true, true, true, true, true, true, true, true, true, true, true, false, false, true, true, false, false, false, false, false, false, false, false, false, false, false, false, false, false, false, false, false, false, false, false, false, false, false, false, false, false] rfl rfl (any_of HT_.out (by kernel_rfl)) (fun _ _ _ h => h) (Or.inl ⟨by rfl, ?_⟩) ?_ ?_
        rotate_left
        ·intro w'
         go_simp
         with_reducible rfl
        rotate_left
        ·simp only [Act.put, List.setIfInBounds_toArray, List.set_cons_zero, List.set_cons_succ, i64_w, i32_w]
         rfl
        refine take_ (i := 12) (N := some 74) (v := ?_) (a' := ?_) #[true, true, true, true, true, true, true, true, true, true, true, true, true, false, true, true, false, false, false, false, false, false, false, false, false, false, false, false, false, false, false, false, false, false, false, false, false, false, false, false, false, false] rfl rfl (take_ofW HT_.out HW_.out (by kernel_rfl)) (fun _ _ _ h => h) (Or.inl ⟨by rfl, ?_⟩) hHeld ?_ ?_
        rotate_left
        ·rintro w' ⟨s0, s1, s2, s3⟩
         go_simp
         with_reducible rfl
        rotate_left
        ·simp only [Act.put, List.setIfInBounds_toArray, List.set_cons_zero, List.set_cons_succ, i64_w, i32_w]
         rfl
        refine take_ (i := 16) (N := some 78) (v := ?_) (a' := ?_) #[true, true, true, true, true, true, true, true, true, true, true, true, true, false, true, true, true, false, false, false, false, false, false, false, false, false, false, false, false, false, false, false, false, false, false, false, false, false, false, false, false, false] rfl rfl (take_ofW HT_.out HW_.out (by kernel_rfl)) (fun _ _ _ h => h) (Or.inl ⟨by rfl, ?_⟩) hHeld ?_ ?_
        rotate_left
        ·rintro w' ⟨s0, s1, s2, s3⟩
         go_simp
         with_reducible rfl
        rotate_left
        ·simp only [Act.put, List.setIfInBounds_toArray, List.set_cons_zero, List.set_cons_succ, i64_w, i32_w]
         rfl
        refine one_ (i := 13) (N := some 75) #[true, true, true, true, true, true, true, true, true, true, true, true, true, true, true, true, true, false, false, false, false, false, false, false, false, false, false, false, false, false, false, false, false, false, false, false, false, false, false, false, false, false] rfl rfl (one_of HT_.out (by kernel_rfl)) (by decide) (fun K hK => ?_)
        refine goes_ Try.func26 (by kernel_rfl) rfl #[.slice Ao100 t321.length co100, .agg #[.int .i64 a2_1, .int .i64 a2_2]] (by rfl) rfl rfl (by (try simp only [List.map_toArray, List.map_cons, List.map_nil]); first | done | rfl | (simp only [List.length_drop, List.length_take]; rfl)) ?_
        with_reducible refine (span_Covers.calls _ _ t321 a2_1 a2_2 t362 _ ?side1 ?side2 A88.out).mono ?_
        (case side1 => repeat (first | exact (Kd.R_reads' HO_8.out).2.2 | (with_reducible refine Kd.C_alloc ?_ _) | (with_reducible refine Kd.C_drewN ?_ _) | (with_reducible refine Kd.C_drew ?_)))
        (case side2 => exact (Kd.R_reads' HO_8.out).2.1)
        rintro e w102 ⟨rfl, hb⟩
        refine ⟨_, rfl, ?_⟩
        have n0_ := Aside0.mk (Kd.R_below (rZ HO_8.out) hb)
        have n1_ := Aside0.mk (Kd.R_below (rZ HO359.out) hb)
        have n2_ := Aside0.mk (blk_below (g := gb319) (o := .cells #[.int .i64 a2_0, .int .i64 a2_1, .int .i64 a2_2, .slice A2_3 l2_3.length c2_3] 27 (0, 0)) (by (with_reducible repeat (first | refine blk_drewN ?_ _ | refine blk_drew ?_ | refine blk_alloc ?_ _)); exact BK319.out) hb)
        have n3_ := Aside0.mk (below_step (by repeat (first | (with_reducible first | exact HB.out | apply below_alloc | apply pw_below_drewN | apply below_drew1 | refine below_set ?_ GE319.out) | exact HB.out)) hb)
        clear HO_8
        clear HO359
        clear BK319
        clear HB
        have HO_8 := n0_
        have HO359 := n1_
        have BK319 := n2_
        have HB := n3_
        clear n0_ n1_ n2_ n3_
        (try clear hb)
        (try clear hb2)
        (try clear hk)
        (try clear hi)
        refine hK.out _ _ ⟨(blk_cell BK319.out 0).trans rfl, (blk_cell BK319.out 1).trans rfl, (blk_cell BK319.out 2).trans rfl, (blk_cell BK319.out 3).trans rfl⟩ (fun hHeld => ?_)
        clear hK K
        refine norm_ (a' := ?_) ?_ ?_
        rotate_left
        ·show Act.put _ (some 75) _ = _
         simp only [Act.put, List.setIfInBounds_toArray, List.set_cons_zero, List.set_cons_succ, i64_w, i32_w]
         rfl
        refine one_ (i := 17) (N := some 79) #[true, true, true, true, true, true, true, true, true, true, true, true, true, true, true, true, true, true, false, false, false, false, false, false, false, false, false, false, false, false, false, false, false, false, false, false, false, false, false, false, false, false] rfl rfl (one_of HT_.out (by kernel_rfl)) (by decide) (fun K hK => ?_)
        refine goes_ Try.func27 (by kernel_rfl) rfl #[.slice Ao100 t321.length co100, .agg #[.int .i64 a2_1, .int .i64 a2_2]] (by rfl) rfl rfl (by (try simp only [List.map_toArray, List.map_cons, List.map_nil]); first | done | rfl | (simp only [List.length_drop, List.length_take]; rfl)) ?_
        with_reducible refine (r11_Covers.calls kj6 _ _ t321 a2_1 a2_2 t363 _ ?side1 ?side2 A89.out).mono ?_
        (case side1 => repeat (first | exact (Kd.R_reads' HO_8.out).2.2 | (with_reducible refine Kd.C_alloc ?_ _) | (with_reducible refine Kd.C_drewN ?_ _) | (with_reducible refine Kd.C_drew ?_)))
        (case side2 => exact (Kd.R_reads' HO_8.out).2.1)
        rintro e w103 ⟨rfl, hb⟩
        refine ⟨_, rfl, ?_⟩
        have n0_ := Aside0.mk (Kd.R_below (rZ HO_8.out) hb)
        have n1_ := Aside0.mk (Kd.R_below (rZ HO359.out) hb)
        have n2_ := Aside0.mk (blk_below (g := gb319) (o := .cells #[.int .i64 a2_0, .int .i64 a2_1, .int .i64 a2_2, .slice A2_3 l2_3.length c2_3] 27 (0, 0)) (by (with_reducible repeat (first | refine blk_drewN ?_ _ | refine blk_drew ?_ | refine blk_alloc ?_ _)); exact BK319.out) hb)
        have n3_ := Aside0.mk (below_step (by repeat (first | (with_reducible first | exact HB.out | apply below_alloc | apply pw_below_drewN | apply below_drew1 | refine below_set ?_ GE319.out) | exact HB.out)) hb)
        clear HO_8
        clear HO359
        clear BK319
        clear HB
        have HO_8 := n0_
        have HO359 := n1_
        have BK319 := n2_
        have HB := n3_
        clear n0_ n1_ n2_ n3_
        (try clear hb)
        (try clear hb2)
        (try clear hk)
        (try clear hi)
        obtain ⟨Ao104, co104, eo104⟩ := Kd.R_slice HO359.out
        (first | subst eo104 | (injection eo104 with f1_ f2_ f3_; have f4_ := f1_.symm; have f5_ := f3_.symm; clear f1_ f2_ f3_; subst f4_; subst f5_))
        refine hK.out _ _ ⟨(blk_cell BK319.out 0).trans rfl, (blk_cell BK319.out 1).trans rfl, (blk_cell BK319.out 2).trans rfl, (blk_cell BK319.out 3).trans rfl⟩ (fun hHeld => ?_)
        clear hK K
        refine norm_ (a' := ?_) ?_ ?_
        rotate_left
        ·show Act.put _ (some 79) _ = _
         simp only [Act.put, List.setIfInBounds_toArray, List.set_cons_zero, List.set_cons_succ, i64_w, i32_w]
         rfl
        refine pure_ (i := 18) (N := some 80) (v := ?_) (a' := ?_) #[true, true, true, true, true, true, true, true, true, true, true, true, true, true, true, true, true, true, true, false, false, false, false, false, false, false, false, false, false, false, false, false, false, false, false, false, false, false, false, false, false, false] rfl rfl (any_of HT_.out (by kernel_rfl)) (fun _ _ _ h => h) (Or.inl ⟨by rfl, ?_⟩) ?_ ?_
        rotate_left
        ·intro w'
         go_simp
         with_reducible rfl
        rotate_left
        ·simp only [Act.put, List.setIfInBounds_toArray, List.set_cons_zero, List.set_cons_succ, i64_w, i32_w]
         rfl
        refine pure_ (i := 19) (N := some 81) (v := ?_) (a' := ?_) #[true, true, true, true, true, true, true, true, true, true, true, true, true, true, true, true, true, true, true, true, false, false, false, false, false, false, false, false, false, false, false, false, false, false, false, false, false, false, false, false, false, false] rfl rfl (any_of HT_.out (by kernel_rfl)) (fun _ _ _ h => h) (Or.inl ⟨by rfl, ?_⟩) ?_ ?_
        rotate_left
        ·intro w'
         go_simp
         with_reducible rfl
        rotate_left
        ·simp only [Act.put, List.setIfInBounds_toArray, List.set_cons_zero, List.set_cons_succ, i64_w, i32_w]
         rfl
        refine pure_ (i := 20) (N := some 82) (v := ?_) (a' := ?_) #[true, true, true, true, true, true, true, true, true, true, true, true, true, true, true, true, true, true, true, true, true, false, false, false, false, false, false, false, false, false, false, false, false, false, false, false, false, false, false, false, false, false] rfl rfl (any_of HT_.out (by kernel_rfl)) (fun _ _ _ h => h) (Or.inl ⟨by rfl, ?_⟩) ?_ ?_
        rotate_left
        ·intro w'
         go_simp
         with_reducible rfl
        rotate_left
        ·simp only [Act.put, List.setIfInBounds_toArray, List.set_cons_zero, List.set_cons_succ, i64_w, i32_w]
         rfl
        refine pure_ (i := 21) (N := some 83) (v := ?_) (a' := ?_) #[true, true, true, true, true, true, true, true, true, true, true, true, true, true, true, true, true, true, true, true, true, true, false, false, false, false, false, false, false, false, false, false, false, false, false, false, false, false, false, false, false, false] rfl rfl (any_of HT_.out (by kernel_rfl)) (fun _ _ _ h => h) (Or.inl ⟨by rfl, ?_⟩) ?_ ?_
        rotate_left
        ·intro w'
         go_simp
         with_reducible rfl
        rotate_left
        ·simp only [Act.put, List.setIfInBounds_toArray, List.set_cons_zero, List.set_cons_succ, i64_w, i32_w]
         rfl
        refine pure_ (i := 22) (N := some 84) (v := ?_) (a' := ?_) #[true, true, true, true, true, true, true, true, true, true, true, true, true, true, true, true, true, true, true, true, true, true, true, false, false, false, false, false, false, false, false, false, false, false, false, false, false, false, false, false, false, false] rfl rfl (any_of HT_.out (by kernel_rfl)) (fun _ _ _ h => h) (Or.inl ⟨by rfl, ?_⟩) ?_ ?_
        rotate_left
        ·intro w'
         go_simp
         with_reducible rfl
        rotate_left
        ·simp only [Act.put, List.setIfInBounds_toArray, List.set_cons_zero, List.set_cons_succ, i64_w, i32_w]
         rfl
        refine pure_ (i := 25) (N := some 87) (v := ?_) (a' := ?_) #[true, true, true, true, true, true, true, true, true, true, true, true, true, true, true, true, true, true, true, true, true, true, true, false, false, true, false, false, false, false, false, false, false, false, false, false, false, false, false, false, false, false] rfl rfl (any_of HT_.out (by kernel_rfl)) (fun _ _ _ h => h) (Or.inl ⟨by rfl, ?_⟩) ?_ ?_
        rotate_left
        ·intro w'
         go_simp
         with_reducible rfl
        rotate_left
        ·simp only [Act.put, List.setIfInBounds_toArray, List.set_cons_zero, List.set_cons_succ, i64_w, i32_w]
         rfl
        refine pure_ (i := 26) (N := some 88) (v := ?_) (a' := ?_) #[true, true, true, true, true, true, true, true, true, true, true, true, true, true, true, true, true, true, true, true, true, true, true, false, false, true, true, false, false, false, false, false, false, false, false, false, false, false, false, false, false, false] rfl rfl (any_of HT_.out (by kernel_rfl)) (fun _ _ _ h => h) (Or.inl ⟨by rfl, ?_⟩) ?_ ?_
        rotate_left
        ·intro w'
         go_simp
         with_reducible rfl
        rotate_left
        ·simp only [Act.put, List.setIfInBounds_toArray, List.set_cons_zero, List.set_cons_succ, i64_w, i32_w]
         rfl
        refine take_ (i := 23) (N := some 85) (v := ?_) (a' := ?_) #[true, true, true, true, true, true, true, true, true, true, true, true, true, true, true, true, true, true, true, true, true, true, true, true, false, true, true, false, false, false, false, false, false, false, false, false, false, false, false, false, false, false] rfl rfl (take_ofW HT_.out HW_.out (by kernel_rfl)) (fun _ _ _ h => h) (Or.inl ⟨by rfl, ?_⟩) hHeld ?_ ?_
        rotate_left
        ·rintro w' ⟨s0, s1, s2, s3⟩
         go_simp
         with_reducible rfl
        rotate_left
        ·simp only [Act.put, List.setIfInBounds_toArray, List.set_cons_zero, List.set_cons_succ, i64_w, i32_w]
         rfl
        refine take_ (i := 27) (N := some 89) (v := ?_) (a' := ?_) #[true, true, true, true, true, true, true, true, true, true, true, true, true, true, true, true, true, true, true, true, true, true, true, true, false, true, true, true, false, false, false, false, false, false, false, false, false, false, false, false, false, false] rfl rfl (take_ofW HT_.out HW_.out (by kernel_rfl)) (fun _ _ _ h => h) (Or.inl ⟨by rfl, ?_⟩) hHeld ?_ ?_
        rotate_left
        ·rintro w' ⟨s0, s1, s2, s3⟩
         go_simp
         with_reducible rfl
        rotate_left
        ·simp only [Act.put, List.setIfInBounds_toArray, List.set_cons_zero, List.set_cons_succ, i64_w, i32_w]
         rfl
        refine one_ (i := 24) (N := some 86) #[true, true, true, true, true, true, true, true, true, true, true, true, true, true, true, true, true, true, true, true, true, true, true, true, true, true, true, true, false, false, false, false, false, false, false, false, false, false, false, false, false, false] rfl rfl (one_of HT_.out (by kernel_rfl)) (by decide) (fun K hK => ?_)
        refine goes_ Try.func26 (by kernel_rfl) rfl #[.slice Ao104 t357.length co104, .agg #[.int .i64 a2_1, .int .i64 a2_2]] (by rfl) rfl rfl (by (try simp only [List.map_toArray, List.map_cons, List.map_nil]); first | done | rfl | (simp only [List.length_drop, List.length_take]; rfl)) ?_
        with_reducible refine (span_Covers.calls _ _ t357 a2_1 a2_2 t364 _ ?side1 ?side2 A91.out).mono ?_
        (case side1 => repeat (first | exact (Kd.R_reads' HO359.out).2.2 | (with_reducible refine Kd.C_alloc ?_ _) | (with_reducible refine Kd.C_drewN ?_ _) | (with_reducible refine Kd.C_drew ?_)))
        (case side2 => exact (Kd.R_reads' HO359.out).2.1)
        rintro e w105 ⟨rfl, hb⟩
        refine ⟨_, rfl, ?_⟩
        have n0_ := Aside0.mk (Kd.R_below (rZ HO_8.out) hb)
        have n1_ := Aside0.mk (Kd.R_below (rZ HO359.out) hb)
        have n2_ := Aside0.mk (blk_below (g := gb319) (o := .cells #[.int .i64 a2_0, .int .i64 a2_1, .int .i64 a2_2, .slice A2_3 l2_3.length c2_3] 27 (0, 0)) (by (with_reducible repeat (first | refine blk_drewN ?_ _ | refine blk_drew ?_ | refine blk_alloc ?_ _)); exact BK319.out) hb)
        have n3_ := Aside0.mk (below_step (by repeat (first | (with_reducible first | exact HB.out | apply below_alloc | apply pw_below_drewN | apply below_drew1 | refine below_set ?_ GE319.out) | exact HB.out)) hb)
        clear HO_8
        clear HO359
        clear BK319
        clear HB
        have HO_8 := n0_
        have HO359 := n1_
        have BK319 := n2_
        have HB := n3_
        clear n0_ n1_ n2_ n3_
        (try clear hb)
        (try clear hb2)
        (try clear hk)
        (try clear hi)
        refine hK.out _ _ ⟨(blk_cell BK319.out 0).trans rfl, (blk_cell BK319.out 1).trans rfl, (blk_cell BK319.out 2).trans rfl, (blk_cell BK319.out 3).trans rfl⟩ (fun hHeld => ?_)
        clear hK K
        refine norm_ (a' := ?_) ?_ ?_
        rotate_left
        ·show Act.put _ (some 86) _ = _
         simp only [Act.put, List.setIfInBounds_toArray, List.set_cons_zero, List.set_cons_succ, i64_w, i32_w]
         rfl
        refine one_ (i := 28) (N := some 90) #[true, true, true, true, true, true, true, true, true, true, true, true, true, true, true, true, true, true, true, true, true, true, true, true, true, true, true, true, true, false, false, false, false, false, false, false, false, false, false, false, false, false] rfl rfl (one_of HT_.out (by kernel_rfl)) (by decide) (fun K hK => ?_)
        refine goes_ Try.func27 (by kernel_rfl) rfl #[.slice Ao104 t357.length co104, .agg #[.int .i64 a2_1, .int .i64 a2_2]] (by rfl) rfl rfl (by (try simp only [List.map_toArray, List.map_cons, List.map_nil]); first | done | rfl | (simp only [List.length_drop, List.length_take]; rfl)) ?_
        with_reducible refine (r11_Covers.calls kj6 _ _ t357 a2_1 a2_2 t365 _ ?side1 ?side2 A92.out).mono ?_
        (case side1 => repeat (first | exact (Kd.R_reads' HO359.out).2.2 | (with_reducible refine Kd.C_alloc ?_ _) | (with_reducible refine Kd.C_drewN ?_ _) | (with_reducible refine Kd.C_drew ?_)))
        (case side2 => exact (Kd.R_reads' HO359.out).2.1)
        rintro e w106 ⟨rfl, hb⟩
        refine ⟨_, rfl, ?_⟩
        have n0_ := Aside0.mk (Kd.R_below (rZ HO_8.out) hb)
        have n1_ := Aside0.mk (Kd.R_below (rZ HO359.out) hb)
        have n2_ := Aside0.mk (blk_below (g := gb319) (o := .cells #[.int .i64 a2_0, .int .i64 a2_1, .int .i64 a2_2, .slice A2_3 l2_3.length c2_3] 27 (0, 0)) (by (with_reducible repeat (first | refine blk_drewN ?_ _ | refine blk_drew ?_ | refine blk_alloc ?_ _)); exact BK319.out) hb)
        have n3_ := Aside0.mk (below_step (by repeat (first | (with_reducible first | exact HB.out | apply below_alloc | apply pw_below_drewN | apply below_drew1 | refine below_set ?_ GE319.out) | exact HB.out)) hb)
        clear HO_8
        clear HO359
        clear BK319
        clear HB
        have HO_8 := n0_
        have HO359 := n1_
        have BK319 := n2_
        have HB := n3_
        clear n0_ n1_ n2_ n3_
        (try clear hb)
        (try clear hb2)
        (try clear hk)
        (try clear hi)
        refine hK.out _ _ ⟨(blk_cell BK319.out 0).trans rfl, (blk_cell BK319.out 1).trans rfl, (blk_cell BK319.out 2).trans rfl, (blk_cell BK319.out 3).trans rfl⟩ (fun hHeld => ?_)
        clear hK K
        refine norm_ (a' := ?_) ?_ ?_
        rotate_left
        ·show Act.put _ (some 90) _ = _
         simp only [Act.put, List.setIfInBounds_toArray, List.set_cons_zero, List.set_cons_succ, i64_w, i32_w]
         rfl
        refine pure_ (i := 29) (N := some 91) (v := ?_) (a' := ?_) #[true, true, true, true, true, true, true, true, true, true, true, true, true, true, true, true, true, true, true, true, true, true, true, true, true, true, true, true, true, true, false, false, false, false, false, false, false, false, false, false, false, false] rfl rfl (any_of HT_.out (by kernel_rfl)) (fun _ _ _ h => h) (Or.inl ⟨by rfl, ?_⟩) ?_ ?_
        rotate_left
        ·intro w'
         go_simp
         with_reducible rfl
        rotate_left
        ·simp only [Act.put, List.setIfInBounds_toArray, List.set_cons_zero, List.set_cons_succ, i64_w, i32_w]
         rfl
        refine pure_ (i := 30) (N := some 92) (v := ?_) (a' := ?_) #[true, true, true, true, true, true, true, true, true, true, true, true, true, true, true, true, true, true, true, true, true, true, true, true, true, true, true, true, true, true, true, false, false, false, false, false, false, false, false, false, false, false] rfl rfl (any_of HT_.out (by kernel_rfl)) (fun _ _ _ h => h) (Or.inl ⟨by rfl, ?_⟩) ?_ ?_
        rotate_left
        ·intro w'
         go_simp
         with_reducible rfl
        rotate_left
        ·simp only [Act.put, List.setIfInBounds_toArray, List.set_cons_zero, List.set_cons_succ, i64_w, i32_w]
         rfl
        refine pure_ (i := 31) (N := some 93) (v := ?_) (a' := ?_) #[true, true, true, true, true, true, true, true, true, true, true, true, true, true, true, true, true, true, true, true, true, true, true, true, true, true, true, true, true, true, true, true, false, false, false, false, false, false, false, false, false, false] rfl rfl (any_of HT_.out (by kernel_rfl)) (fun _ _ _ h => h) (Or.inl ⟨by rfl, ?_⟩) ?_ ?_
        rotate_left
        ·intro w'
         go_simp
         with_reducible rfl
        rotate_left
        ·simp only [Act.put, List.setIfInBounds_toArray, List.set_cons_zero, List.set_cons_succ, i64_w, i32_w]
         rfl
        refine pure_ (i := 32) (N := some 94) (v := ?_) (a' := ?_) #[true, true, true, true, true, true, true, true, true, true, true, true, true, true, true, true, true, true, true, true, true, true, true, true, true, true, true, true, true, true, true, true, true, false, false, false, false, false, false, false, false, false] rfl rfl (any_of HT_.out (by kernel_rfl)) (fun _ _ _ h => h) (Or.inl ⟨by rfl, ?_⟩) ?_ ?_
        rotate_left
        ·intro w'
         go_simp
         with_reducible rfl
        rotate_left
        ·simp only [Act.put, List.setIfInBounds_toArray, List.set_cons_zero, List.set_cons_succ, i64_w, i32_w]
         rfl
        refine pure_ (i := 34) (N := some 96) (v := ?_) (a' := ?_) #[true, true, true, true, true, true, true, true, true, true, true, true, true, true, true, true, true, true, true, true, true, true, true, true, true, true, true, true, true, true, true, true, true, false, true, false, false, false, false, false, false, false] rfl rfl (any_of HT_.out (by kernel_rfl)) (fun _ _ _ h => h) (Or.inl ⟨by rfl, ?_⟩) ?_ ?_
        rotate_left
        ·intro w'
         go_simp
         with_reducible rfl
        rotate_left
        ·simp only [Act.put, List.setIfInBounds_toArray, List.set_cons_zero, List.set_cons_succ, i64_w, i32_w]
         rfl
        refine one_ (i := 33) (N := some 95) #[true, true, true, true, true, true, true, true, true, true, true, true, true, true, true, true, true, true, true, true, true, true, true, true, true, true, true, true, true, true, true, true, true, true, true, false, false, false, false, false, false, false] rfl rfl (one_of HT_.out (by kernel_rfl)) (by decide) (fun K hK => ?_)
        refine goes_ Try.func28 (by kernel_rfl) rfl #[.slice Ao104 t357.length co104] (by rfl) rfl rfl (by (try simp only [List.map_toArray, List.map_cons, List.map_nil]); first | done | rfl | (simp only [List.length_drop, List.length_take]; rfl)) ?_
        with_reducible refine (span_Total.calls kj6 _ _ t357 t366 _ ?side1 ?side2 A94.out).mono ?_
        (case side1 => repeat (first | exact (Kd.R_reads' HO359.out).2.2 | (with_reducible refine Kd.C_alloc ?_ _) | (with_reducible refine Kd.C_drewN ?_ _) | (with_reducible refine Kd.C_drew ?_)))
        (case side2 => exact (Kd.R_reads' HO359.out).2.1)
        rintro e w107 ⟨rfl, hb⟩
        refine ⟨_, rfl, ?_⟩
        have n0_ := Aside0.mk (Kd.R_below (rZ HO_8.out) hb)
        have n1_ := Aside0.mk (Kd.R_below (rZ HO359.out) hb)
        have n2_ := Aside0.mk (blk_below (g := gb319) (o := .cells #[.int .i64 a2_0, .int .i64 a2_1, .int .i64 a2_2, .slice A2_3 l2_3.length c2_3] 27 (0, 0)) (by (with_reducible repeat (first | refine blk_drewN ?_ _ | refine blk_drew ?_ | refine blk_alloc ?_ _)); exact BK319.out) hb)
        have n3_ := Aside0.mk (below_step (by repeat (first | (with_reducible first | exact HB.out | apply below_alloc | apply pw_below_drewN | apply below_drew1 | refine below_set ?_ GE319.out) | exact HB.out)) hb)
        clear HO_8
        clear HO359
        clear BK319
        clear HB
        have HO_8 := n0_
        have HO359 := n1_
        have BK319 := n2_
        have HB := n3_
        clear n0_ n1_ n2_ n3_
        (try clear hb)
        (try clear hb2)
        (try clear hk)
        (try clear hi)
        refine hK.out _ _ ⟨(blk_cell BK319.out 0).trans rfl, (blk_cell BK319.out 1).trans rfl, (blk_cell BK319.out 2).trans rfl, (blk_cell BK319.out 3).trans rfl⟩ (fun hHeld => ?_)
        clear hK K
        refine norm_ (a' := ?_) ?_ ?_
        rotate_left
        ·show Act.put _ (some 95) _ = _
         simp only [Act.put, List.setIfInBounds_toArray, List.set_cons_zero, List.set_cons_succ, i64_w, i32_w]
         rfl
        refine one_ (i := 35) (N := some 97) #[true, true, true, true, true, true, true, true, true, true, true, true, true, true, true, true, true, true, true, true, true, true, true, true, true, true, true, true, true, true, true, true, true, true, true, true, false, false, false, false, false, false] rfl rfl (one_of HT_.out (by kernel_rfl)) (by decide) (fun K hK => ?_)
        refine goes_ Try.func29 (by kernel_rfl) rfl #[.slice Ao104 t357.length co104] (by rfl) rfl rfl (by (try simp only [List.map_toArray, List.map_cons, List.map_nil]); first | done | rfl | (simp only [List.length_drop, List.length_take]; rfl)) ?_
        with_reducible refine (r11_Total.calls kj6 _ _ t357 t367 _ ?side1 ?side2 A95.out).mono ?_
        (case side1 => repeat (first | exact (Kd.R_reads' HO359.out).2.2 | (with_reducible refine Kd.C_alloc ?_ _) | (with_reducible refine Kd.C_drewN ?_ _) | (with_reducible refine Kd.C_drew ?_)))
        (case side2 => exact (Kd.R_reads' HO359.out).2.1)
        rintro e w108 ⟨rfl, hb⟩
        refine ⟨_, rfl, ?_⟩
        have n0_ := Aside0.mk (Kd.R_below (rZ HO_8.out) hb)
        have n1_ := Aside0.mk (Kd.R_below (rZ HO359.out) hb)
        have n2_ := Aside0.mk (blk_below (g := gb319) (o := .cells #[.int .i64 a2_0, .int .i64 a2_1, .int .i64 a2_2, .slice A2_3 l2_3.length c2_3] 27 (0, 0)) (by (with_reducible repeat (first | refine blk_drewN ?_ _ | refine blk_drew ?_ | refine blk_alloc ?_ _)); exact BK319.out) hb)
        have n3_ := Aside0.mk (below_step (by repeat (first | (with_reducible first | exact HB.out | apply below_alloc | apply pw_below_drewN | apply below_drew1 | refine below_set ?_ GE319.out) | exact HB.out)) hb)
        clear HO_8
        clear HO359
        clear BK319
        clear HB
        have HO_8 := n0_
        have HO359 := n1_
        have BK319 := n2_
        have HB := n3_
        clear n0_ n1_ n2_ n3_
        (try clear hb)
        (try clear hb2)
        (try clear hk)
        (try clear hi)
        refine hK.out _ _ ⟨(blk_cell BK319.out 0).trans rfl, (blk_cell BK319.out 1).trans rfl, (blk_cell BK319.out 2).trans rfl, (blk_cell BK319.out 3).trans rfl⟩ (fun hHeld => ?_)
        clear hK K
        refine norm_ (a' := ?_) ?_ ?_
        rotate_left
        ·show Act.put _ (some 97) _ = _
         simp only [Act.put, List.setIfInBounds_toArray, List.set_cons_zero, List.set_cons_succ, i64_w, i32_w]
         rfl
        refine pure_ (i := 36) (N := some 98) (v := ?_) (a' := ?_) #[true, true, true, true, true, true, true, true, true, true, true, true, true, true, true, true, true, true, true, true, true, true, true, true, true, true, true, true, true, true, true, true, true, true, true, true, true, false, false, false, false, false] rfl rfl (any_of HT_.out (by kernel_rfl)) (fun _ _ _ h => h) (Or.inl ⟨by rfl, ?_⟩) ?_ ?_
        rotate_left
        ·intro w'
         go_simp
         with_reducible rfl
        rotate_left
        ·simp only [Act.put, List.setIfInBounds_toArray, List.set_cons_zero, List.set_cons_succ, i64_w, i32_w]
         rfl
        refine pure_ (i := 37) (N := some 99) (v := ?_) (a' := ?_) #[true, true, true, true, true, true, true, true, true, true, true, true, true, true, true, true, true, true, true, true, true, true, true, true, true, true, true, true, true, true, true, true, true, true, true, true, true, true, false, false, false, false] rfl rfl (any_of HT_.out (by kernel_rfl)) (fun _ _ _ h => h) (Or.inl ⟨by rfl, ?_⟩) ?_ ?_
        rotate_left
        ·intro w'
         go_simp
         with_reducible rfl
        rotate_left
        ·simp only [Act.put, List.setIfInBounds_toArray, List.set_cons_zero, List.set_cons_succ, i64_w, i32_w]
         rfl
        refine pure_ (i := 38) (N := some 100) (v := ?_) (a' := ?_) #[true, true, true, true, true, true, true, true, true, true, true, true, true, true, true, true, true, true, true, true, true, true, true, true, true, true, true, true, true, true, true, true, true, true, true, true, true, true, true, false, false, false] rfl rfl (any_of HT_.out (by kernel_rfl)) (fun _ _ _ h => h) (Or.inl ⟨by rfl, ?_⟩) ?_ ?_
        rotate_left
        ·intro w'
         go_simp
         with_reducible rfl
        rotate_left
        ·simp only [Act.put, List.setIfInBounds_toArray, List.set_cons_zero, List.set_cons_succ, i64_w, i32_w]
         rfl
        refine pure_ (i := 39) (N := some 101) (v := ?_) (a' := ?_) #[true, true, true, true, true, true, true, true, true, true, true, true, true, true, true, true, true, true, true, true, true, true, true, true, true, true, true, true, true, true, true, true, true, true, true, true, true, true, true, true, false, false] rfl rfl (any_of HT_.out (by kernel_rfl)) (fun _ _ _ h => h) (Or.inl ⟨by rfl, ?_⟩) ?_ ?_
        rotate_left
        ·intro w'
         go_simp
         with_reducible rfl
        rotate_left
        ·simp only [Act.put, List.setIfInBounds_toArray, List.set_cons_zero, List.set_cons_succ, i64_w, i32_w]
         rfl
        refine pure_ (i := 40) (N := some 102) (v := ?_) (a' := ?_) #[true, true, true, true, true, true, true, true, true, true, true, true, true, true, true, true, true, true, true, true, true, true, true, true, true, true, true, true, true, true, true, true, true, true, true, true, true, true, true, true, true, false] rfl rfl (any_of HT_.out (by kernel_rfl)) (fun _ _ _ h => h) (Or.inl ⟨by rfl, ?_⟩) ?_ ?_
        rotate_left
        ·intro w'
         go_simp
         with_reducible rfl
        rotate_left
        ·simp only [Act.put, List.setIfInBounds_toArray, List.set_cons_zero, List.set_cons_succ, i64_w, i32_w]
         rfl
        refine pure_ (i := 41) (N := some 6) (v := ?_) (a' := ?_) #[true, true, true, true, true, true, true, true, true, true, true, true, true, true, true, true, true, true, true, true, true, true, true, true, true, true, true, true, true, true, true, true, true, true, true, true, true, true, true, true, true, true] rfl rfl (any_of HT_.out (by kernel_rfl)) (fun _ _ _ h => h) (Or.inl ⟨by rfl, ?_⟩) ?_ ?_
        rotate_left
        ·intro w'
         go_simp
         with_reducible rfl
        rotate_left
        ·simp only [Act.put, List.setIfInBounds_toArray, List.set_cons_zero, List.set_cons_succ, i64_w, i32_w]
         rfl
        refine done_ (done_of HT_.out (by kernel_rfl)) ?_
        try go_wp2
        go_ret
        exact ⟨by first | rfl | (simp [errW_none, errW_some] <;> rfl) | (simp [*, errW_none, errW_some] <;> rfl) | (exfalso; simp_all only [aside0_iff, Option.some.injEq, reduceCtorEq]), by repeat (first | (with_reducible first | exact HB.out | apply below_alloc | apply pw_below_drewN | apply below_drew1 | refine below_set ?_ GE319.out) | exact HB.out)⟩
       ·rw [if_neg c96] at H
        have c96b0 : (t366 == t367) = false := beq_eq_false_iff_ne.mpr c96
        have c96b1 : (t366 != t367) = true := bne_iff_ne.mpr c96
        exact absurd ((Option.some.inj H).trans HLAW.out) (by decide)
      ·rw [if_neg c93] at H
       have c93b0 : (t364 == t365) = false := by simpa using c93
       (try (have c93b1 : decide (t364 = t365) = false := by simpa using c93))
       (try (have c93b2 : (t364 == t365) = false := by simpa using c93))
       (try (have c93b3 : ¬ (t364 = t365) := by simpa using c93))
       clear c93
       exact absurd ((Option.some.inj H).trans HLAW.out) (by decide)
     ·rw [if_neg c90] at H
      have c90b0 : (t362 == t363) = false := by simpa using c90
      (try (have c90b1 : decide (t362 = t363) = false := by simpa using c90))
      (try (have c90b2 : (t362 == t363) = false := by simpa using c90))
      (try (have c90b3 : ¬ (t362 = t363) := by simpa using c90))
      clear c90
      exact absurd ((Option.some.inj H).trans HLAW.out) (by decide)
    ·rw [if_neg c87] at H
     have c87b0 : (t360 == t361) = false := by simpa using c87
     (try (have c87b1 : decide (t360 = t361) = false := by simpa using c87))
     (try (have c87b2 : (t360 == t361) = false := by simpa using c87))
     (try (have c87b3 : ¬ (t360 = t361) := by simpa using c87))
     clear c87
     exact absurd ((Option.some.inj H).trans HLAW.out) (by decide)

/-- THE ONE PURE STATEMENT of l11_SpanMatchesReference: yours. -/
def l11_SpanMatchesReference.Pure : Prop := ∀ (l0 : List (S24)) (l1 : List (S24)) (a2_0 : Int) (a2_1 : Int) (a2_2 : Int) (l2_3 : List (S49)), (l0.length ≤ maxLen ∧ l0.length * 16 ≤ 140737488351232 ∧ ∀ x1_ ∈ l0, ((Lit.int .i64 x1_.f0).wf = true) ∧ ((Lit.int .i64 x1_.f1).wf = true)) → (l1.length ≤ maxLen ∧ l1.length * 16 ≤ 140737488351232 ∧ ∀ x1_ ∈ l1, ((Lit.int .i64 x1_.f0).wf = true) ∧ ((Lit.int .i64 x1_.f1).wf = true)) → (((Lit.int .i64 a2_0).wf = true) ∧ ((((Lit.int .i64 a2_1).wf = true) ∧ ((Lit.int .i64 a2_2).wf = true)) ∧ (l2_3.length ≤ maxLen ∧ l2_3.length * 2 ≤ 140737488351232 ∧ ∀ x1_ ∈ l2_3, ((Lit.int .i8 x1_.f0).wf = true) ∧ ((Lit.int .i8 x1_.f1).wf = true)))) → ∃ k, l11_SpanMatchesReference.f k l0 l1 a2_0 a2_1 a2_2 l2_3 = some true

end Go.Proofs.Ytebggajdojdebaa.PS
