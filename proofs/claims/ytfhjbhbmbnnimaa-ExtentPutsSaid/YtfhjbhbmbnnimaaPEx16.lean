/- Plain Lean functions with the answers of the Go functions that these laws reach, and proofs that the calls come to them; written by this session's program. -/
import Derived.Test.YtfhjbhbmbnnimaaPEx0
import Derived.Test.YtfhjbhbmbnnimaaPEx1
import Derived.Test.YtfhjbhbmbnnimaaPEx5
import Derived.Test.YtfhjbhbmbnnimaaPEx8
import Derived.Test.YtfhjbhbmbnnimaaPEx9
import Derived.Test.YtfhjbhbmbnnimaaPEx11
import Derived.Test.YtfhjbhbmbnnimaaPEx12
import Derived.Test.YtfhjbhbmbnnimaaPEx15
namespace Go.Proofs.Ytfhjbhbmbnnimaa.PE
open Go.RowKit Go.Proofs.YtfhjbhbmbnnimaaW.PrintWords Go.Proofs.YtfhjbhbmbnnimaaW.PrintLast Go.Proofs.YtfhjbhbmbnnimaaW.PrintMore
attribute [local go_sem] max2_int min2_int max_two min_two max_three min_three max_four min_four   -- for this text's walks alone
set_option linter.unusedVariables false
set_option linter.unusedSimpArgs false

attribute [local go_sem high] eqA32
/-! ### l08_ExtentPuts: function 4 -/
mutual
def l08_ExtentPuts.j0 : Nat → Bool → List (S58) → Int → Int → Int → Bool → List (S58) → Int → Option (Bool)
 | 0, _, _, _, _, _, _, _, _ => none
 | k + 1, x5, x6, x7, x8, x9, x45, x308000, x308001 => if x45 = true then (some false) else ((r08_Each.f k x6).bind fun t309 => ((r08_Each.f k x308000).bind fun t312 => (if (t312.length : Int) = (mx (t309.length : Int) (wrap64 (x7 + x9))) then (l08_ExtentPuts.l0 k x5 x7 x8 x9 t309 t312 0 x308000 x308001) else (some false))))
def l08_ExtentPuts.l0 : Nat → Bool → Int → Int → Int → List (S32) → List (S32) → Int → List (S58) → Int → Option (Bool)
 | 0, _, _, _, _, _, _, _, _, _ => none
 | k + 1, x5, x7, x8, x9, x11, x12, x13, x308000, x308001 => if x13 < (x12.length : Int) then (if x13 ≥ x7 then (l08_ExtentPuts.j2 k x5 x7 x8 x9 x11 x12 x13 (decide (x13 < (wrap64 (x7 + x9)))) x308000 x308001 0 0) else (l08_ExtentPuts.j2 k x5 x7 x8 x9 x11 x12 x13 false x308000 x308001 0 0)) else ((l08_put.f x308000 x7 x8 x9).bind fun bt315 => ((l08_same.f k bt315.1 bt315.2 x308000 x308001).bind fun t320 => (if t320 = true then (some x5) else (some false))))
def l08_ExtentPuts.j2 : Nat → Bool → Int → Int → Int → List (S32) → List (S32) → Int → Bool → List (S58) → Int → Int → Int → Option (Bool)
 | 0, _, _, _, _, _, _, _, _, _, _, _, _ => none
 | k + 1, x5, x7, x8, x9, x11, x12, x13, x76, x308000, x308001, x322000, x322001 => if x76 = true then (if 0 ≤ x13 then (if x13 < (x12.length : Int) then (if (!(((rd_T32 x12 x13).f0) == x8) || (!(((rd_T32 x12 x13).f1) == (wrap64 (x13 - x7))))) = true then (some false) else (l08_ExtentPuts.l0 k x5 x7 x8 x9 x11 x12 (wrap64 (x13 + 1)) x308000 x308001)) else (none)) else (none)) else (if x13 < (x11.length : Int) then (if 0 ≤ x13 then (if x13 < (x12.length : Int) then (if (!(((rd_T32 x12 x13).f0) == ((rd_T32 x11 x13).f0)) || (!(((rd_T32 x12 x13).f1) == ((rd_T32 x11 x13).f1)))) = true then (some false) else (l08_ExtentPuts.l0 k x5 x7 x8 x9 x11 x12 (wrap64 (x13 + 1)) x308000 x308001)) else (none)) else (none)) else (if 0 ≤ x13 then (if x13 < (x12.length : Int) then (if (!(((rd_T32 x12 x13).f0) == x322000) || (!(((rd_T32 x12 x13).f1) == x322001))) = true then (some false) else (l08_ExtentPuts.l0 k x5 x7 x8 x9 x11 x12 (wrap64 (x13 + 1)) x308000 x308001)) else (none)) else (none)))
end
def l08_ExtentPuts.f (k : Nat) (l0 : List (S37)) (a1_0 : Int) (a1_1 : Int) (a1_2 : Int) : Option (Bool) := (l08_sanity.f).bind fun t299 => ((r08_Made.f k l0).bind fun t300 => ((l08_put.f t300 (Int.tmod (wrap64 (a1_0)) 100) (wrap64 (1 + (Int.tmod (wrap64 (a1_1)) 5))) (wrap64 (1 + (Int.tmod (wrap64 (a1_2)) 20)))).bind fun bt303 => (if bt303.2 = 0 then ((l08_sane.f k bt303.1 bt303.2).bind fun t308 => (l08_ExtentPuts.j0 k t299 t300 (Int.tmod (wrap64 (a1_0)) 100) (wrap64 (1 + (Int.tmod (wrap64 (a1_1)) 5))) (wrap64 (1 + (Int.tmod (wrap64 (a1_2)) 20))) (!t308) bt303.1 bt303.2)) else (l08_ExtentPuts.j0 k t299 t300 (Int.tmod (wrap64 (a1_0)) 100) (wrap64 (1 + (Int.tmod (wrap64 (a1_1)) 5))) (wrap64 (1 + (Int.tmod (wrap64 (a1_2)) 20))) true bt303.1 bt303.2))))
theorem l08_ExtentPuts.mono_l : ∀ k, (∀ y0 y1 y2 y3 y4 y5 y6 y7, LeO (l08_ExtentPuts.j0 k y0 y1 y2 y3 y4 y5 y6 y7) (l08_ExtentPuts.j0 (k + 1) y0 y1 y2 y3 y4 y5 y6 y7)) ∧ (∀ y0 y1 y2 y3 y4 y5 y6 y7 y8, LeO (l08_ExtentPuts.l0 k y0 y1 y2 y3 y4 y5 y6 y7 y8) (l08_ExtentPuts.l0 (k + 1) y0 y1 y2 y3 y4 y5 y6 y7 y8)) ∧ (∀ y0 y1 y2 y3 y4 y5 y6 y7 y8 y9 y10 y11, LeO (l08_ExtentPuts.j2 k y0 y1 y2 y3 y4 y5 y6 y7 y8 y9 y10 y11) (l08_ExtentPuts.j2 (k + 1) y0 y1 y2 y3 y4 y5 y6 y7 y8 y9 y10 y11))
 | 0 => ⟨fun _ _ _ _ _ _ _ _ r h => by simp [l08_ExtentPuts.j0] at h, fun _ _ _ _ _ _ _ _ _ r h => by simp [l08_ExtentPuts.l0] at h, fun _ _ _ _ _ _ _ _ _ _ _ _ r h => by simp [l08_ExtentPuts.j2] at h⟩
 | k + 1 => by
  obtain ⟨ih0, ih1, ih2⟩ := l08_ExtentPuts.mono_l k
  refine ⟨?_, ?_, ?_⟩
  ·intro y0 y1 y2 y3 y4 y5 y6 y7
   unfold l08_ExtentPuts.j0
   repeat' first
   | (with_reducible exact ih0 _ _ _ _ _ _ _ _)
   | (with_reducible exact ih1 _ _ _ _ _ _ _ _ _)
   | (with_reducible exact ih2 _ _ _ _ _ _ _ _ _ _ _ _)
   | (with_reducible exact l08_same.mono _ _ _ _ _)
   | (with_reducible exact l08_sane.mono _ _ _)
   | (with_reducible exact r08_Each.mono _ _)
   | (with_reducible exact r08_Made.mono _ _)
   | (with_reducible exact LeO.refl _)
   | (with_reducible exact LeO.none _)
   | (with_reducible refine LeO.ite ?_ ?_)
   | (with_reducible refine LeO.bind ?_ (fun _ => ?_))
   | exact ih0 _ _ _ _ _ _ _ _
   | exact ih1 _ _ _ _ _ _ _ _ _
   | exact ih2 _ _ _ _ _ _ _ _ _ _ _ _
   | exact l08_same.mono _ _ _ _ _
   | exact l08_sane.mono _ _ _
   | exact r08_Each.mono _ _
   | exact r08_Made.mono _ _
   | exact LeO.none _
   | refine LeO.ite ?_ ?_
   | refine LeO.bind ?_ (fun _ => ?_)
  ·intro y0 y1 y2 y3 y4 y5 y6 y7 y8
   unfold l08_ExtentPuts.l0
   repeat' first
   | (with_reducible exact ih0 _ _ _ _ _ _ _ _)
   | (with_reducible exact ih1 _ _ _ _ _ _ _ _ _)
   | (with_reducible exact ih2 _ _ _ _ _ _ _ _ _ _ _ _)
   | (with_reducible exact l08_same.mono _ _ _ _ _)
   | (with_reducible exact l08_sane.mono _ _ _)
   | (with_reducible exact r08_Each.mono _ _)
   | (with_reducible exact r08_Made.mono _ _)
   | (with_reducible exact LeO.refl _)
   | (with_reducible exact LeO.none _)
   | (with_reducible refine LeO.ite ?_ ?_)
   | (with_reducible refine LeO.bind ?_ (fun _ => ?_))
   | exact ih0 _ _ _ _ _ _ _ _
   | exact ih1 _ _ _ _ _ _ _ _ _
   | exact ih2 _ _ _ _ _ _ _ _ _ _ _ _
   | exact l08_same.mono _ _ _ _ _
   | exact l08_sane.mono _ _ _
   | exact r08_Each.mono _ _
   | exact r08_Made.mono _ _
   | exact LeO.none _
   | refine LeO.ite ?_ ?_
   | refine LeO.bind ?_ (fun _ => ?_)
  ·intro y0 y1 y2 y3 y4 y5 y6 y7 y8 y9 y10 y11
   unfold l08_ExtentPuts.j2
   repeat' first
   | (with_reducible exact ih0 _ _ _ _ _ _ _ _)
   | (with_reducible exact ih1 _ _ _ _ _ _ _ _ _)
   | (with_reducible exact ih2 _ _ _ _ _ _ _ _ _ _ _ _)
   | (with_reducible exact l08_same.mono _ _ _ _ _)
   | (with_reducible exact l08_sane.mono _ _ _)
   | (with_reducible exact r08_Each.mono _ _)
   | (with_reducible exact r08_Made.mono _ _)
   | (with_reducible exact LeO.refl _)
   | (with_reducible exact LeO.none _)
   | (with_reducible refine LeO.ite ?_ ?_)
   | (with_reducible refine LeO.bind ?_ (fun _ => ?_))
   | exact ih0 _ _ _ _ _ _ _ _
   | exact ih1 _ _ _ _ _ _ _ _ _
   | exact ih2 _ _ _ _ _ _ _ _ _ _ _ _
   | exact l08_same.mono _ _ _ _ _
   | exact l08_sane.mono _ _ _
   | exact r08_Each.mono _ _
   | exact r08_Made.mono _ _
   | exact LeO.none _
   | refine LeO.ite ?_ ?_
   | refine LeO.bind ?_ (fun _ => ?_)
theorem l08_ExtentPuts.mono : ∀ a0 a1 a2 a3 k, LeO (l08_ExtentPuts.f k a0 a1 a2 a3) (l08_ExtentPuts.f (k + 1) a0 a1 a2 a3) := by
 intro a0 a1 a2 a3 k
 obtain ⟨ih0, ih1, ih2⟩ := l08_ExtentPuts.mono_l k
 unfold l08_ExtentPuts.f
 repeat' first
   | (with_reducible exact ih0 _ _ _ _ _ _ _ _)
   | (with_reducible exact ih1 _ _ _ _ _ _ _ _ _)
   | (with_reducible exact ih2 _ _ _ _ _ _ _ _ _ _ _ _)
   | (with_reducible exact l08_same.mono _ _ _ _ _)
   | (with_reducible exact l08_sane.mono _ _ _)
   | (with_reducible exact r08_Each.mono _ _)
   | (with_reducible exact r08_Made.mono _ _)
   | (with_reducible exact LeO.refl _)
   | (with_reducible exact LeO.none _)
   | (with_reducible refine LeO.ite ?_ ?_)
   | (with_reducible refine LeO.bind ?_ (fun _ => ?_))
   | exact ih0 _ _ _ _ _ _ _ _
   | exact ih1 _ _ _ _ _ _ _ _ _
   | exact ih2 _ _ _ _ _ _ _ _ _ _ _ _
   | exact l08_same.mono _ _ _ _ _
   | exact l08_sane.mono _ _ _
   | exact r08_Each.mono _ _
   | exact r08_Made.mono _ _
   | exact LeO.none _
   | refine LeO.ite ?_ ?_
   | refine LeO.bind ?_ (fun _ => ?_)
def l08_ExtentPuts.T3 : Bool × List (List Nat × List Nat) := (true, [([], []), ([0], [0]), ([1], [1]), ([2], [2]), ([], []), ([4], [4]), ([5], [5]), ([6], [6]), ([7], [7]), ([], []), ([9], [9]), ([10], [10]), ([11], [11]), ([12], [12]), ([3, 0, 1, 2, 3], [3]), ([8, 14, 0, 1, 2, 3, 4, 5, 6, 7, 8, 14], [8]), ([13, 15, 0, 1, 2, 3, 4, 5, 6, 7, 8, 9, 10, 11, 12, 13, 14, 15], [13])])
def l08_ExtentPuts.B3 : List Nat := [0, 1, 3, 7, 0, 16, 48, 112, 240, 0, 512, 1536, 3584, 7680, 15, 16895, 65535]
theorem l08_ExtentPuts.tab3 : rtab .any (opsOf Try.f4 3) = l08_ExtentPuts.T3 := by kernel_rfl
theorem l08_ExtentPuts.bits3 : waitsOk l08_ExtentPuts.T3.2 l08_ExtentPuts.B3 = true := by kernel_rfl
set_option maxHeartbeats 8000000 in
set_option maxRecDepth 100000 in
theorem l08_ExtentPuts.calls (k : Nat) (A0 : Option Addr) (c0 : Nat) (l0 : List (S37)) (a1_0 : Int) (a1_1 : Int) (a1_2 : Int) (r : Bool) (w : World) (hr0 : Kd.C k37 w A0 l0.length l0) (hc0 : l0.length ≤ c0) (hr : r = true) (h : l08_ExtentPuts.f k l0 a1_0 a1_1 a1_2 = some r) :
  Calls Try.prog 4 #[.slice A0 l0.length c0, .agg #[.int .u8 a1_0, .int .u8 a1_1, .int .u8 a1_2]] w fun e w' => e = .returned (.bool r) ∧ Below w.heap.size w w' := by
 have hu37 := Try.underlying37
 have hu40 := Try.underlying40
 have hu32 := Try.underlying32
 have HR0 := Aside0.mk hr0
 have HC0 := Aside0.mk hc0
 clear hr0 hc0
 have HB := Aside0.mk (Below.refl w.heap.size w)
 have HLAW := Aside0.mk hr
 clear hr
 have H : ((l08_sanity.f).bind fun t299 => ((r08_Made.f k l0).bind fun t300 => ((l08_put.f t300 (Int.tmod (wrap64 (a1_0)) 100) (wrap64 (1 + (Int.tmod (wrap64 (a1_1)) 5))) (wrap64 (1 + (Int.tmod (wrap64 (a1_2)) 20)))).bind fun bt303 => (if bt303.2 = 0 then ((l08_sane.f k bt303.1 bt303.2).bind fun t308 => (l08_ExtentPuts.j0 k t299 t300 (Int.tmod (wrap64 (a1_0)) 100) (wrap64 (1 + (Int.tmod (wrap64 (a1_1)) 5))) (wrap64 (1 + (Int.tmod (wrap64 (a1_2)) 20))) (!t308) bt303.1 bt303.2)) else (l08_ExtentPuts.j0 k t299 t300 (Int.tmod (wrap64 (a1_0)) 100) (wrap64 (1 + (Int.tmod (wrap64 (a1_1)) 5))) (wrap64 (1 + (Int.tmod (wrap64 (a1_2)) 20))) true bt303.1 bt303.2))))) = some r := h
 clear h
 replace H := Option.bind_eq_some_iff.mp H
 obtain ⟨t299, A30, H⟩ := H
 replace H : ((r08_Made.f k l0).bind fun t300 => ((l08_put.f t300 (Int.tmod (wrap64 (a1_0)) 100) (wrap64 (1 + (Int.tmod (wrap64 (a1_1)) 5))) (wrap64 (1 + (Int.tmod (wrap64 (a1_2)) 20)))).bind fun bt303 => (if bt303.2 = 0 then ((l08_sane.f k bt303.1 bt303.2).bind fun t308 => (l08_ExtentPuts.j0 k t299 t300 (Int.tmod (wrap64 (a1_0)) 100) (wrap64 (1 + (Int.tmod (wrap64 (a1_1)) 5))) (wrap64 (1 + (Int.tmod (wrap64 (a1_2)) 20))) (!t308) bt303.1 bt303.2)) else (l08_ExtentPuts.j0 k t299 t300 (Int.tmod (wrap64 (a1_0)) 100) (wrap64 (1 + (Int.tmod (wrap64 (a1_1)) 5))) (wrap64 (1 + (Int.tmod (wrap64 (a1_2)) 20))) true bt303.1 bt303.2)))) = some r := H
 have A3 := Aside0.mk A30
 clear A30
 replace H := Option.bind_eq_some_iff.mp H
 obtain ⟨t300, A40, H⟩ := H
 replace H : ((l08_put.f t300 (Int.tmod (wrap64 (a1_0)) 100) (wrap64 (1 + (Int.tmod (wrap64 (a1_1)) 5))) (wrap64 (1 + (Int.tmod (wrap64 (a1_2)) 20)))).bind fun bt303 => (if bt303.2 = 0 then ((l08_sane.f k bt303.1 bt303.2).bind fun t308 => (l08_ExtentPuts.j0 k t299 t300 (Int.tmod (wrap64 (a1_0)) 100) (wrap64 (1 + (Int.tmod (wrap64 (a1_1)) 5))) (wrap64 (1 + (Int.tmod (wrap64 (a1_2)) 20))) (!t308) bt303.1 bt303.2)) else (l08_ExtentPuts.j0 k t299 t300 (Int.tmod (wrap64 (a1_0)) 100) (wrap64 (1 + (Int.tmod (wrap64 (a1_1)) 5))) (wrap64 (1 + (Int.tmod (wrap64 (a1_2)) 20))) true bt303.1 bt303.2))) = some r := H
 have A4 := Aside0.mk A40
 clear A40
 replace H := Option.bind_eq_some_iff.mp H
 obtain ⟨⟨t303, t306⟩, A50, H⟩ := H
 replace H : (if t306 = 0 then ((l08_sane.f k t303 t306).bind fun t308 => (l08_ExtentPuts.j0 k t299 t300 (Int.tmod (wrap64 (a1_0)) 100) (wrap64 (1 + (Int.tmod (wrap64 (a1_1)) 5))) (wrap64 (1 + (Int.tmod (wrap64 (a1_2)) 20))) (!t308) t303 t306)) else (l08_ExtentPuts.j0 k t299 t300 (Int.tmod (wrap64 (a1_0)) 100) (wrap64 (1 + (Int.tmod (wrap64 (a1_1)) 5))) (wrap64 (1 + (Int.tmod (wrap64 (a1_2)) 20))) true t303 t306)) = some r := H
 have A5 := Aside0.mk A50
 clear A50
 have HC6 := Aside0.mk H
 clear H
 go_enter Try.func4, Try.ntmps4
 try go_wp2_with (first | ((with_reducible refine gate_dst (N := 3) rfl ?_); refine box_event ?hg (N := 3) ?hd (cs := #[.int .u8 a1_0, .int .u8 a1_1, .int .u8 a1_2]) (t := 37) ?hr ?_; (case hd => rfl); (case hg => rfl); (case hr => first | (go_simp; done) | (go_simp; rfl)); intro gb298 hg w7 hbox hb; have n0_ := Aside0.mk (below_step (by repeat (first | (with_reducible first | exact HB.out | apply below_alloc | apply pw_below_drewN | apply below_drew1) | exact HB.out)) hb); have n1_ := Aside0.mk (hbox); have n2_ := Aside0.mk ((by rw [hg]; exact (below_size (by repeat (first | (with_reducible first | exact HB.out | apply below_alloc | apply pw_below_drewN | apply below_drew1) | exact HB.out))) : w.heap.size ≤ gb298)); have n3_ := Aside0.mk ((by rw [hg]; exact (below_size (by repeat (first | (with_reducible first | exact HB.out | apply below_alloc | apply pw_below_drewN | apply below_drew1) | exact HB.out))) : w.heap.size ≤ gb298)); clear HB; have HB := n0_; have BK298 := n1_; have GW298 := n2_; have GE298 := n3_; clear n0_ n1_ n2_ n3_; clear hb hbox hg) | ((with_reducible refine gate_callee (f := 10) rfl ?_); refine goesL_ (some 16) rfl rfl Try.func10 (by kernel_rfl) rfl #[] rfl (by (try simp only [List.map_toArray, List.map_cons, List.map_nil]); first | done | rfl | (simp only [List.length_drop, List.length_take]; rfl)) ?_; (with_reducible refine (l08_sanity.calls  t299 _ A3.out).mono ?_); rintro e w8 ⟨rfl, hb⟩; refine ⟨_, rfl, ?_⟩; have n0_ := Aside0.mk (blk_below (g := gb298) (o := .cells #[.int .u8 a1_0, .int .u8 a1_1, .int .u8 a1_2] 37 (0, 0)) (by (with_reducible repeat (first | refine blk_drewN ?_ _ | refine blk_drew ?_ | refine blk_alloc ?_ _)); exact BK298.out) hb); have n1_ := Aside0.mk (below_step (by repeat (first | (with_reducible first | exact HB.out | apply below_alloc | apply pw_below_drewN | apply below_drew1 | refine below_set ?_ GE298.out) | exact HB.out)) hb); clear BK298; clear HB; have BK298 := n0_; have HB := n1_; clear n0_ n1_; (try clear hb); (try clear hb2); (try clear hk); (try clear hi)) | ((with_reducible refine gate_callee (f := 11) rfl ?_); refine goesL_ (some 18) rfl rfl Try.func11 (by kernel_rfl) rfl #[.slice A0 l0.length c0] rfl (by (try simp only [List.map_toArray, List.map_cons, List.map_nil]); first | done | rfl | (simp only [List.length_drop, List.length_take]; rfl)) ?_; (with_reducible refine (r08_Made.calls k _ _ l0 t300 _ ?side1 ?side2 A4.out).mono ?_); (case side1 => repeat (first | exact (Kd.C_below HR0.out HB.out) | (with_reducible refine Kd.C_alloc ?_ _) | (with_reducible refine Kd.C_drewN ?_ _) | (with_reducible refine Kd.C_drew ?_))); (case side2 => exact HC0.out); rintro e w9 ⟨v301, rfl, ho0, hb⟩; refine ⟨_, rfl, ?_⟩; have n0_ := Aside0.mk (Kd.R_lower ho0 (below_size (by repeat (first | (with_reducible first | exact HB.out | apply below_alloc | apply pw_below_drewN | apply below_drew1 | refine below_set ?_ GE298.out) | exact HB.out)))); have n1_ := Aside0.mk (blk_below (g := gb298) (o := .cells #[.int .u8 a1_0, .int .u8 a1_1, .int .u8 a1_2] 37 (0, 0)) (by (with_reducible repeat (first | refine blk_drewN ?_ _ | refine blk_drew ?_ | refine blk_alloc ?_ _)); exact BK298.out) hb); have n2_ := Aside0.mk (below_step (by repeat (first | (with_reducible first | exact HB.out | apply below_alloc | apply pw_below_drewN | apply below_drew1 | refine below_set ?_ GE298.out) | exact HB.out)) hb); clear BK298; clear HB; have HO302 := n0_; have BK298 := n1_; have HB := n2_; clear n0_ n1_ n2_; (try clear hb); (try clear hb2); (try clear hk); (try clear hi); (try clear ho0)))
 have n0_ := Aside0.mk (Kd.R_drew HO302.out)
 have n1_ := Aside0.mk (blk_drew BK298.out)
 have n2_ := Aside0.mk (below_drew1 HB.out)
 clear HO302
 clear BK298
 clear HB
 have HO302 := n0_
 have BK298 := n1_
 have HB := n2_
 clear n0_ n1_ n2_
 refine start_ (n := 17) (S := fun w' => w'.cell? ⟨gb298, 0, none⟩ = some (.int .u8 a1_0) ∧ w'.cell? ⟨gb298, 1, none⟩ = some (.int .u8 a1_1) ∧ w'.cell? ⟨gb298, 2, none⟩ = some (.int .u8 a1_2)) (ds := []) #[false, false, false, false, false, false, false, false, false, false, false, false, false, false, false, false, false] (by kernel_rfl) rfl rfl ⟨(blk_cell BK298.out 0).trans rfl, (blk_cell BK298.out 1).trans rfl, (blk_cell BK298.out 2).trans rfl⟩ (fun hHeld => ?_); refine with_tabW l08_ExtentPuts.tab3 l08_ExtentPuts.bits3 (fun HT_ HW_ => ?_)
 generalize w9.drew = w10 at HO302 BK298 HB hHeld ⊢
 refine pure_ (i := 0) (N := some 19) (v := ?_) (a' := ?_) #[true, false, false, false, false, false, false, false, false, false, false, false, false, false, false, false, false] rfl rfl (any_of HT_.out (by kernel_rfl)) (fun _ _ _ h => h) (Or.inl ⟨by rfl, ?_⟩) ?_ ?_
 rotate_left
 ·intro w'
  go_simp
  with_reducible rfl
 rotate_left
 ·simp only [Act.put, List.setIfInBounds_toArray, List.set_cons_zero, List.set_cons_succ, i64_w, i32_w]
  rfl
 refine pure_ (i := 4) (N := some 23) (v := ?_) (a' := ?_) #[true, false, false, false, true, false, false, false, false, false, false, false, false, false, false, false, false] rfl rfl (any_of HT_.out (by kernel_rfl)) (fun _ _ _ h => h) (Or.inl ⟨by rfl, ?_⟩) ?_ ?_
 rotate_left
 ·intro w'
  go_simp
  with_reducible rfl
 rotate_left
 ·simp only [Act.put, List.setIfInBounds_toArray, List.set_cons_zero, List.set_cons_succ, i64_w, i32_w]
  rfl
 refine pure_ (i := 9) (N := some 28) (v := ?_) (a' := ?_) #[true, false, false, false, true, false, false, false, false, true, false, false, false, false, false, false, false] rfl rfl (any_of HT_.out (by kernel_rfl)) (fun _ _ _ h => h) (Or.inl ⟨by rfl, ?_⟩) ?_ ?_
 rotate_left
 ·intro w'
  go_simp
  with_reducible rfl
 rotate_left
 ·simp only [Act.put, List.setIfInBounds_toArray, List.set_cons_zero, List.set_cons_succ, i64_w, i32_w]
  rfl
 refine take_ (i := 1) (N := some 20) (v := ?_) (a' := ?_) #[true, true, false, false, true, false, false, false, false, true, false, false, false, false, false, false, false] rfl rfl (take_ofW HT_.out HW_.out (by kernel_rfl)) (fun _ _ _ h => h) (Or.inl ⟨by rfl, ?_⟩) hHeld ?_ ?_
 rotate_left
 ·rintro w' ⟨s0, s1, s2⟩
  go_simp
  with_reducible rfl
 rotate_left
 ·simp only [Act.put, List.setIfInBounds_toArray, List.set_cons_zero, List.set_cons_succ, i64_w, i32_w]
  rfl
 refine pure_ (i := 2) (N := some 21) (v := ?_) (a' := ?_) #[true, true, true, false, true, false, false, false, false, true, false, false, false, false, false, false, false] rfl rfl (any_of HT_.out (by kernel_rfl)) (fun _ _ _ h => h) (Or.inl ⟨by rfl, ?_⟩) ?_ ?_
 rotate_left
 ·intro w'
  go_simp
  with_reducible rfl
 rotate_left
 ·simp only [Act.put, List.setIfInBounds_toArray, List.set_cons_zero, List.set_cons_succ, i64_w, i32_w]
  rfl
 refine pure_ (i := 3) (N := some 22) (v := ?_) (a' := ?_) #[true, true, true, true, true, false, false, false, false, true, false, false, false, false, false, false, false] rfl rfl (any_of HT_.out (by kernel_rfl)) (fun _ _ _ h => h) (Or.inl ⟨by rfl, ?_⟩) ?_ ?_
 rotate_left
 ·intro w'
  go_simp
  with_reducible rfl
 rotate_left
 ·simp only [Act.put, List.setIfInBounds_toArray, List.set_cons_zero, List.set_cons_succ, i64_w, i32_w]
  rfl
 refine pure_ (i := 14) (N := some 7) (v := ?_) (a' := ?_) #[true, true, true, true, true, false, false, false, false, true, false, false, false, false, true, false, false] rfl rfl (any_of HT_.out (by kernel_rfl)) (fun _ _ _ h => h) (Or.inl ⟨by rfl, ?_⟩) ?_ ?_
 rotate_left
 ·intro w'
  go_simp
  with_reducible rfl
 rotate_left
 ·simp only [Act.put, List.setIfInBounds_toArray, List.set_cons_zero, List.set_cons_succ, i64_w, i32_w]
  rfl
 refine take_ (i := 5) (N := some 24) (v := ?_) (a' := ?_) #[true, true, true, true, true, true, false, false, false, true, false, false, false, false, true, false, false] rfl rfl (take_ofW HT_.out HW_.out (by kernel_rfl)) (fun _ _ _ h => h) (Or.inl ⟨by rfl, ?_⟩) hHeld ?_ ?_
 rotate_left
 ·rintro w' ⟨s0, s1, s2⟩
  go_simp
  with_reducible rfl
 rotate_left
 ·simp only [Act.put, List.setIfInBounds_toArray, List.set_cons_zero, List.set_cons_succ, i64_w, i32_w]
  rfl
 refine pure_ (i := 6) (N := some 25) (v := ?_) (a' := ?_) #[true, true, true, true, true, true, true, false, false, true, false, false, false, false, true, false, false] rfl rfl (any_of HT_.out (by kernel_rfl)) (fun _ _ _ h => h) (Or.inl ⟨by rfl, ?_⟩) ?_ ?_
 rotate_left
 ·intro w'
  go_simp
  with_reducible rfl
 rotate_left
 ·simp only [Act.put, List.setIfInBounds_toArray, List.set_cons_zero, List.set_cons_succ, i64_w, i32_w]
  rfl
 refine pure_ (i := 7) (N := some 26) (v := ?_) (a' := ?_) #[true, true, true, true, true, true, true, true, false, true, false, false, false, false, true, false, false] rfl rfl (any_of HT_.out (by kernel_rfl)) (fun _ _ _ h => h) (Or.inl ⟨by rfl, ?_⟩) ?_ ?_
 rotate_left
 ·intro w'
  go_simp
  with_reducible rfl
 rotate_left
 ·simp only [Act.put, List.setIfInBounds_toArray, List.set_cons_zero, List.set_cons_succ, i64_w, i32_w]
  rfl
 refine pure_ (i := 8) (N := some 27) (v := ?_) (a' := ?_) #[true, true, true, true, true, true, true, true, true, true, false, false, false, false, true, false, false] rfl rfl (any_of HT_.out (by kernel_rfl)) (fun _ _ _ h => h) (Or.inl ⟨by rfl, ?_⟩) ?_ ?_
 rotate_left
 ·intro w'
  go_simp
  with_reducible rfl
 rotate_left
 ·simp only [Act.put, List.setIfInBounds_toArray, List.set_cons_zero, List.set_cons_succ, i64_w, i32_w]
  rfl
 refine pure_ (i := 15) (N := some 8) (v := ?_) (a' := ?_) #[true, true, true, true, true, true, true, true, true, true, false, false, false, false, true, true, false] rfl rfl (any_of HT_.out (by kernel_rfl)) (fun _ _ _ h => h) (Or.inl ⟨by rfl, ?_⟩) ?_ ?_
 rotate_left
 ·intro w'
  go_simp
  with_reducible rfl
 rotate_left
 ·simp only [Act.put, List.setIfInBounds_toArray, List.set_cons_zero, List.set_cons_succ, i64_w, i32_w]
  rfl
 refine take_ (i := 10) (N := some 29) (v := ?_) (a' := ?_) #[true, true, true, true, true, true, true, true, true, true, true, false, false, false, true, true, false] rfl rfl (take_ofW HT_.out HW_.out (by kernel_rfl)) (fun _ _ _ h => h) (Or.inl ⟨by rfl, ?_⟩) hHeld ?_ ?_
 rotate_left
 ·rintro w' ⟨s0, s1, s2⟩
  go_simp
  with_reducible rfl
 rotate_left
 ·simp only [Act.put, List.setIfInBounds_toArray, List.set_cons_zero, List.set_cons_succ, i64_w, i32_w]
  rfl
 refine pure_ (i := 11) (N := some 30) (v := ?_) (a' := ?_) #[true, true, true, true, true, true, true, true, true, true, true, true, false, false, true, true, false] rfl rfl (any_of HT_.out (by kernel_rfl)) (fun _ _ _ h => h) (Or.inl ⟨by rfl, ?_⟩) ?_ ?_
 rotate_left
 ·intro w'
  go_simp
  with_reducible rfl
 rotate_left
 ·simp only [Act.put, List.setIfInBounds_toArray, List.set_cons_zero, List.set_cons_succ, i64_w, i32_w]
  rfl
 refine pure_ (i := 12) (N := some 31) (v := ?_) (a' := ?_) #[true, true, true, true, true, true, true, true, true, true, true, true, true, false, true, true, false] rfl rfl (any_of HT_.out (by kernel_rfl)) (fun _ _ _ h => h) (Or.inl ⟨by rfl, ?_⟩) ?_ ?_
 rotate_left
 ·intro w'
  go_simp
  with_reducible rfl
 rotate_left
 ·simp only [Act.put, List.setIfInBounds_toArray, List.set_cons_zero, List.set_cons_succ, i64_w, i32_w]
  rfl
 refine pure_ (i := 13) (N := some 32) (v := ?_) (a' := ?_) #[true, true, true, true, true, true, true, true, true, true, true, true, true, true, true, true, false] rfl rfl (any_of HT_.out (by kernel_rfl)) (fun _ _ _ h => h) (Or.inl ⟨by rfl, ?_⟩) ?_ ?_
 rotate_left
 ·intro w'
  go_simp
  with_reducible rfl
 rotate_left
 ·simp only [Act.put, List.setIfInBounds_toArray, List.set_cons_zero, List.set_cons_succ, i64_w, i32_w]
  rfl
 refine pure_ (i := 16) (N := some 9) (v := ?_) (a' := ?_) #[true, true, true, true, true, true, true, true, true, true, true, true, true, true, true, true, true] rfl rfl (any_of HT_.out (by kernel_rfl)) (fun _ _ _ h => h) (Or.inl ⟨by rfl, ?_⟩) ?_ ?_
 rotate_left
 ·intro w'
  go_simp
  with_reducible rfl
 rotate_left
 ·simp only [Act.put, List.setIfInBounds_toArray, List.set_cons_zero, List.set_cons_succ, i64_w, i32_w]
  rfl
 refine done_ (done_of HT_.out (by kernel_rfl)) ?_
 obtain ⟨Ao11, co11, eo11⟩ := Kd.R_slice HO302.out
 subst eo11
 go_upto_region 5 with (first | ((with_reducible refine gate_callee (f := 20) rfl ?_); refine goesL_ (some 37) rfl rfl Try.func20 (by kernel_rfl) rfl #[.slice Ao11 t300.length co11, .int .i64 (Int.tmod (wrap64 (a1_0)) 100), .int .i64 (wrap64 (1 + (Int.tmod (wrap64 (a1_1)) 5))), .int .i64 (wrap64 (1 + (Int.tmod (wrap64 (a1_2)) 20)))] rfl (by (try simp only [List.map_toArray, List.map_cons, List.map_nil]); first | done | rfl | (simp only [List.length_drop, List.length_take]; rfl)) ?_; (with_reducible refine (l08_put.calls _ _ t300 (Int.tmod (wrap64 (a1_0)) 100) (wrap64 (1 + (Int.tmod (wrap64 (a1_1)) 5))) (wrap64 (1 + (Int.tmod (wrap64 (a1_2)) 20))) t303 t306 _ ?side1 ?side2 A5.out).mono ?_); (case side1 => repeat (first | exact (Kd.R_reads' HO302.out).2.2 | (with_reducible refine Kd.C_alloc ?_ _) | (with_reducible refine Kd.C_drewN ?_ _) | (with_reducible refine Kd.C_drew ?_))); (case side2 => exact (Kd.R_reads' HO302.out).2.1); rintro e w12 ⟨v304, rfl, ho0, hb⟩; refine ⟨_, rfl, ?_⟩; have n0_ := Aside0.mk (Kd.R_elder' (by (with_reducible repeat (first | apply Kd.R_alloc | apply Kd.R_drewN | apply Kd.R_drew)); exact HO302.out) (Kd.R_base ho0) hb); have n1_ := Aside0.mk (Kd.R_lower (Kd.R_new' ho0 (Kd.R_lt (by (with_reducible repeat (first | apply Kd.R_alloc | apply Kd.R_drewN | apply Kd.R_drew)); exact HO302.out))) (below_size (by repeat (first | (with_reducible first | exact HB.out | apply below_alloc | apply pw_below_drewN | apply below_drew1 | refine below_set ?_ GE298.out) | exact HB.out)))); have n2_ := Aside0.mk (blk_below (g := gb298) (o := .cells #[.int .u8 a1_0, .int .u8 a1_1, .int .u8 a1_2] 37 (0, 0)) (by (with_reducible repeat (first | refine blk_drewN ?_ _ | refine blk_drew ?_ | refine blk_alloc ?_ _)); exact BK298.out) hb); have n3_ := Aside0.mk (below_step (by repeat (first | (with_reducible first | exact HB.out | apply below_alloc | apply pw_below_drewN | apply below_drew1 | refine below_set ?_ GE298.out) | exact HB.out)) hb); clear HO302; clear BK298; clear HB; have HO302 := n0_; have HO305 := n1_; have BK298 := n2_; have HB := n3_; clear n0_ n1_ n2_ n3_; (try clear hb); (try clear hb2); (try clear hk); (try clear hi); (try clear ho0)) | ((with_reducible refine gate_dst (N := 10) rfl ?_); refine box_event ?hg (N := 10) ?hd (cs := #[.slice none 0 0, .int .i64 0]) (t := 40) ?hr ?_; (case hd => rfl); (case hg => rfl); (case hr => first | (go_simp; done) | (go_simp; rfl)); intro gb307 hg w13 hbox hb; have n0_ := Aside0.mk (Kd.R_below (by (with_reducible repeat (first | apply Kd.R_alloc | apply Kd.R_drewN | apply Kd.R_drew)); exact HO302.out) hb); have n1_ := Aside0.mk (Kd.R_below (by (with_reducible repeat (first | apply Kd.R_alloc | apply Kd.R_drewN | apply Kd.R_drew)); exact HO305.out) hb); have n2_ := Aside0.mk (blk_below (g := gb298) (o := .cells #[.int .u8 a1_0, .int .u8 a1_1, .int .u8 a1_2] 37 (0, 0)) (by (with_reducible repeat (first | refine blk_drewN ?_ _ | refine blk_drew ?_ | refine blk_alloc ?_ _)); exact BK298.out) hb); have n3_ := Aside0.mk (below_step (by repeat (first | (with_reducible first | exact HB.out | apply below_alloc | apply pw_below_drewN | apply below_drew1 | refine below_set ?_ GE298.out) | exact HB.out)) hb); have n4_ := Aside0.mk (hbox); have n5_ := Aside0.mk ((by rw [hg]; exact (below_size (by repeat (first | (with_reducible first | exact HB.out | apply below_alloc | apply pw_below_drewN | apply below_drew1 | refine below_set ?_ GE298.out) | exact HB.out))) : w.heap.size ≤ gb307)); have n6_ := Aside0.mk ((by rw [hg]; exact (below_size (by repeat (first | (with_reducible first | exact HB.out | apply below_alloc | apply pw_below_drewN | apply below_drew1 | refine below_set ?_ GE298.out) | exact HB.out))) : w.heap.size ≤ gb307)); have n7_ := Aside0.mk ((by rw [hg]; exact Nat.ne_of_lt (blk_lt (g := gb298) (o := .cells #[.int .u8 a1_0, .int .u8 a1_1, .int .u8 a1_2] 37 (0, 0)) (by (with_reducible repeat (first | refine blk_drewN ?_ _ | refine blk_drew ?_ | refine blk_alloc ?_ _)); exact BK298.out)) : gb298 ≠ gb307)); have n8_ := Aside0.mk ((by rw [hg]; exact Nat.ne_of_gt (blk_lt (g := gb298) (o := .cells #[.int .u8 a1_0, .int .u8 a1_1, .int .u8 a1_2] 37 (0, 0)) (by (with_reducible repeat (first | refine blk_drewN ?_ _ | refine blk_drew ?_ | refine blk_alloc ?_ _)); exact BK298.out)) : gb307 ≠ gb298)); clear HO302; clear HO305; clear BK298; clear HB; have HO302 := n0_; have HO305 := n1_; have BK298 := n2_; have HB := n3_; have BK307 := n4_; have GW307 := n5_; have GE307 := n6_; have NB298_307 := n7_; have NB307_298 := n8_; clear n0_ n1_ n2_ n3_ n4_ n5_ n6_ n7_ n8_; clear hb hbox hg; obtain ⟨Ao14, co14, eo14⟩ := Kd.R_slice HO305.out; subst eo14; have hnb15 := NB307_298.out; have hnc15 := NB298_307.out; have hcz16_0 : w13.cell? ⟨gb307, 0, none⟩ = some (.slice none 0 0) := (blk_cell BK307.out 0).trans rfl; have hcz16_1 : w13.cell? ⟨gb307, 1, none⟩ = some (.int .i64 0) := (blk_cell BK307.out 1).trans rfl; have hfz16_0 := blk_frozen BK307.out 0; have hfz16_1 := blk_frozen BK307.out 1))
 (try simp only [Act.put, List.setIfInBounds_toArray, List.set_cons_zero, List.set_cons_succ])
 go_cut [45] (fun v45 wc => ∃ (kq : Nat) (x45_5 : Bool), v45 = .bool x45_5 ∧ Aside0 (l08_ExtentPuts.j0 kq t299 t300 (Int.tmod (wrap64 (a1_0)) 100) (wrap64 (1 + (Int.tmod (wrap64 (a1_1)) 5))) (wrap64 (1 + (Int.tmod (wrap64 (a1_2)) 20))) x45_5 t303 t306 = some r) ∧ Aside0 (kq ≤ k) ∧ Aside0 (Kd.R k58 58 wc w.heap.size (fun k_ => some k_ ≠ ((.slice Ao14 t303.length co14) : Value).ownBlock) (.slice Ao11 t300.length co11) t300) ∧ Aside0 (Kd.R k58 58 wc w.heap.size (fun k_ => some k_ ≠ ((.slice Ao11 t300.length co11) : Value).ownBlock) (.slice Ao14 t303.length co14) t303) ∧ Aside0 (wc.heap[gb298]? = some (.cells #[.int .u8 a1_0, .int .u8 a1_1, .int .u8 a1_2] 37 (0, 0))) ∧ Aside0 (wc.heap[gb307]? = some (.cells #[(.slice Ao14 t303.length co14), .int .i64 t306] 40 (0, 0))) ∧ Aside0 (Below w.heap.size w wc))
 case first =>
  have H := HC6.out
  clear HC6
  by_cases c17 : t306 = 0
  ·rw [if_pos c17] at H
   have c17b0 : (t306 == 0) = true := beq_iff_eq.mpr c17
   have c17b1 : (t306 != 0) = false := bne_eq_false_iff_eq.mpr c17
   clear c17
   (first | rw [c17b0] | (simp only [i64_w, i32_w]; rw [c17b0]) | skip)
   replace H := Option.bind_eq_some_iff.mp H
   obtain ⟨t308, A180, H⟩ := H
   replace H : (l08_ExtentPuts.j0 k t299 t300 (Int.tmod (wrap64 (a1_0)) 100) (wrap64 (1 + (Int.tmod (wrap64 (a1_1)) 5))) (wrap64 (1 + (Int.tmod (wrap64 (a1_2)) 20))) (!t308) t303 t306) = some r := H
   have A18 := Aside0.mk A180
   clear A180
   have H' := Aside0.mk H
   clear H
   have hnb19 := NB307_298.out
   have hnc19 := NB298_307.out
   have hcz20_0 : w13.cell? ⟨gb307, 0, none⟩ = some (.slice none 0 0) := (blk_cell BK307.out 0).trans rfl
   have hcz20_1 : w13.cell? ⟨gb307, 1, none⟩ = some (.int .i64 0) := (blk_cell BK307.out 1).trans rfl
   have hfz20_0 := blk_frozen BK307.out 0
   have hfz20_1 := blk_frozen BK307.out 1
   go_wp2_with (first | (go_at_call 21; (with_reducible refine (l08_sane.calls k _ _ t303 t306 t308 _ ?side1 ?side2 A18.out).mono ?_); (case side1 => refine (Kd.R_reads' (e := 58) (base := w.heap.size) (ok := fun k_ => (True ∧ some k_ ≠ (.slice Ao11 t300.length co11 : Value).ownBlock)) (n := t303.length) (c := co14) ?_).2.2; exact (by (with_reducible repeat (first | apply Kd.R_alloc | apply Kd.R_drewN | apply Kd.R_drew)); exact (Kd.R_mono (Kd.R_far (p := ⟨gb307, 1, none⟩) (Kd.R_far (p := ⟨gb307, 0, none⟩) (Kd.R_types HO305.out BK307.out (by decide)) (fun _ hk => hk.2) (.slice Ao14 t303.length co14)) (fun _ hk => hk.2) (.int .i64 t306)) (fun _ h_ => h_.1)))); (case side2 => exact (Kd.R_reads' HO305.out).2.1); rintro e w21 ⟨rfl, hb⟩; have n0_ := Aside0.mk (Kd.R_below (by (with_reducible repeat (first | apply Kd.R_alloc | apply Kd.R_drewN | apply Kd.R_drew)); exact (Kd.R_mono (Kd.R_far (p := ⟨gb307, 1, none⟩) (Kd.R_far (p := ⟨gb307, 0, none⟩) (Kd.R_types HO302.out BK307.out (by decide)) (fun _ hk => hk.2) (.slice Ao14 t303.length co14)) (fun _ hk => hk.2) (.int .i64 t306)) (fun _ h_ => h_.1))) hb); have n1_ := Aside0.mk (Kd.R_below (by (with_reducible repeat (first | apply Kd.R_alloc | apply Kd.R_drewN | apply Kd.R_drew)); exact (Kd.R_mono (Kd.R_far (p := ⟨gb307, 1, none⟩) (Kd.R_far (p := ⟨gb307, 0, none⟩) (Kd.R_types HO305.out BK307.out (by decide)) (fun _ hk => hk.2) (.slice Ao14 t303.length co14)) (fun _ hk => hk.2) (.int .i64 t306)) (fun _ h_ => h_.1))) hb); have n2_ := Aside0.mk (blk_below (g := gb298) (o := .cells #[.int .u8 a1_0, .int .u8 a1_1, .int .u8 a1_2] 37 (0, 0)) (by (with_reducible repeat (first | refine blk_drewN ?_ _ | refine blk_drew ?_ | refine blk_alloc ?_ _)); refine blk_far ?_ NB298_307.out _; (with_reducible repeat (first | refine blk_drewN ?_ _ | refine blk_drew ?_ | refine blk_alloc ?_ _)); refine blk_far ?_ NB298_307.out _; (with_reducible repeat (first | refine blk_drewN ?_ _ | refine blk_drew ?_ | refine blk_alloc ?_ _)); exact BK298.out) hb); have n3_ := Aside0.mk (blk_below (g := gb307) (o := .cells #[.slice Ao14 t303.length co14, .int .i64 t306] 40 (0, 0)) (by (with_reducible repeat (first | refine blk_drewN ?_ _ | refine blk_drew ?_ | refine blk_alloc ?_ _)); refine blk_put (cs := #[.slice Ao14 t303.length co14, .int .i64 0]) ?_ 1 _ rfl; (with_reducible repeat (first | refine blk_drewN ?_ _ | refine blk_drew ?_ | refine blk_alloc ?_ _)); refine blk_put (cs := #[.slice none 0 0, .int .i64 0]) ?_ 0 _ rfl; (with_reducible repeat (first | refine blk_drewN ?_ _ | refine blk_drew ?_ | refine blk_alloc ?_ _)); exact BK307.out) hb); have n4_ := Aside0.mk (below_step (by repeat (first | (with_reducible first | exact HB.out | apply below_alloc | apply pw_below_drewN | apply below_drew1 | refine below_set ?_ GE298.out | refine below_set ?_ GE307.out) | exact HB.out)) hb); clear HO302; clear HO305; clear BK298; clear BK307; clear HB; have HO302 := n0_; have HO305 := n1_; have BK298 := n2_; have BK307 := n3_; have HB := n4_; clear n0_ n1_ n2_ n3_ n4_; (try clear hb); (try clear hb2); (try clear hk); (try clear hi)))
   go_meet
   case rel => exact ⟨_, (!t308), (by first | rfl | (simp; done) | (simp [*]; done)), H', ⟨by first | omega | exact Nat.le_refl _⟩, ⟨by (with_reducible repeat (first | apply Kd.R_alloc | apply Kd.R_drewN | apply Kd.R_drew)); exact Kd.R_mono HO302.out (fun _ hk => hk.2)⟩, ⟨by (with_reducible repeat (first | apply Kd.R_alloc | apply Kd.R_drewN | apply Kd.R_drew)); exact Kd.R_mono HO305.out (fun _ hk => hk.2)⟩, ⟨by (with_reducible repeat (first | refine blk_drewN ?_ _ | refine blk_drew ?_ | refine blk_alloc ?_ _)); exact BK298.out⟩, ⟨by (with_reducible repeat (first | refine blk_drewN ?_ _ | refine blk_drew ?_ | refine blk_alloc ?_ _)); exact BK307.out⟩, ⟨by repeat (first | (with_reducible first | exact HB.out | apply below_alloc | apply pw_below_drewN | apply below_drew1 | refine below_set ?_ GE298.out | refine below_set ?_ GE307.out) | exact HB.out)⟩⟩
  ·rw [if_neg c17] at H
   have c17b0 : (t306 == 0) = false := beq_eq_false_iff_ne.mpr c17
   have c17b1 : (t306 != 0) = true := bne_iff_ne.mpr c17
   (first | rw [c17b0] | (simp only [i64_w, i32_w]; rw [c17b0]) | skip)
   have H' := Aside0.mk H
   clear H
   have hnb22 := NB307_298.out
   have hnc22 := NB298_307.out
   have hcz23_0 : w13.cell? ⟨gb307, 0, none⟩ = some (.slice none 0 0) := (blk_cell BK307.out 0).trans rfl
   have hcz23_1 : w13.cell? ⟨gb307, 1, none⟩ = some (.int .i64 0) := (blk_cell BK307.out 1).trans rfl
   have hfz23_0 := blk_frozen BK307.out 0
   have hfz23_1 := blk_frozen BK307.out 1
   go_wp2
   go_meet
   case rel => exact ⟨_, (true), (by first | rfl | (simp; done) | (simp [*]; done)), H', ⟨by first | omega | exact Nat.le_refl _⟩, ⟨by (with_reducible repeat (first | apply Kd.R_alloc | apply Kd.R_drewN | apply Kd.R_drew)); exact Kd.R_mono (Kd.R_far (p := ⟨gb307, 1, none⟩) (Kd.R_far (p := ⟨gb307, 0, none⟩) (Kd.R_types HO302.out BK307.out (by decide)) (fun _ hk => hk.2) (.slice Ao14 t303.length co14)) (fun _ hk => hk.2) (.int .i64 t306)) (fun _ hk => hk.1.2)⟩, ⟨by (with_reducible repeat (first | apply Kd.R_alloc | apply Kd.R_drewN | apply Kd.R_drew)); exact Kd.R_mono (Kd.R_far (p := ⟨gb307, 1, none⟩) (Kd.R_far (p := ⟨gb307, 0, none⟩) (Kd.R_types HO305.out BK307.out (by decide)) (fun _ hk => hk.2) (.slice Ao14 t303.length co14)) (fun _ hk => hk.2) (.int .i64 t306)) (fun _ hk => hk.1.2)⟩, ⟨by (with_reducible repeat (first | refine blk_drewN ?_ _ | refine blk_drew ?_ | refine blk_alloc ?_ _)); refine blk_far ?_ NB298_307.out _; (with_reducible repeat (first | refine blk_drewN ?_ _ | refine blk_drew ?_ | refine blk_alloc ?_ _)); refine blk_far ?_ NB298_307.out _; (with_reducible repeat (first | refine blk_drewN ?_ _ | refine blk_drew ?_ | refine blk_alloc ?_ _)); exact BK298.out⟩, ⟨by (with_reducible repeat (first | refine blk_drewN ?_ _ | refine blk_drew ?_ | refine blk_alloc ?_ _)); refine blk_put (cs := #[.slice Ao14 t303.length co14, .int .i64 0]) ?_ 1 _ rfl; (with_reducible repeat (first | refine blk_drewN ?_ _ | refine blk_drew ?_ | refine blk_alloc ?_ _)); refine blk_put (cs := #[.slice none 0 0, .int .i64 0]) ?_ 0 _ rfl; (with_reducible repeat (first | refine blk_drewN ?_ _ | refine blk_drew ?_ | refine blk_alloc ?_ _)); exact BK307.out⟩, ⟨by repeat (first | (with_reducible first | exact HB.out | apply below_alloc | apply pw_below_drewN | apply below_drew1 | refine below_set ?_ GE298.out | refine below_set ?_ GE307.out) | exact HB.out)⟩⟩
 case rest =>
  clear HC6
  try clear c1
  try clear c2
  try clear p2
  try clear c4
  try clear p6
  try clear c10
  try clear c11
  try clear c15
  try clear c17
  try clear c17b0
  try clear c17b1
  try clear c19
  try clear c20
  try clear c22
  try clear hcz16_0
  try clear hcz16_1
  try clear hcz20_0
  try clear hcz20_1
  try clear hcz23_0
  try clear hcz23_1
  try clear hfz16_0
  try clear hfz16_1
  try clear hfz20_0
  try clear hfz20_1
  try clear hfz23_0
  try clear hfz23_1
  obtain ⟨kq, x45_5, rfl, HA, HJ5, HO_6, HO_308000, BK298, BK307, HB⟩ := hcut
  cases kq with
  | zero => exact absurd HA.out (by simp [l08_ExtentPuts.j0])
  | succ kj5 =>
   have H := HA.out
   clear HA
   simp only [l08_ExtentPuts.j0] at H
   by_cases c24 : x45_5 = true
   ·subst c24
    have H1 : (some false) = some r := by rw [if_pos rfl] at H; exact H
    clear H
    have H := H1
    clear H1
    exact absurd ((Option.some.inj H).trans HLAW.out) (by decide)
   ·replace c24 := Bool.eq_false_iff.mpr c24
    subst c24
    have H1 : ((r08_Each.f kj5 t300).bind fun t309 => ((r08_Each.f kj5 t303).bind fun t312 => (if (t312.length : Int) = (mx (t309.length : Int) (wrap64 ((Int.tmod (wrap64 (a1_0)) 100) + (wrap64 (1 + (Int.tmod (wrap64 (a1_2)) 20)))))) then (l08_ExtentPuts.l0 kj5 t299 (Int.tmod (wrap64 (a1_0)) 100) (wrap64 (1 + (Int.tmod (wrap64 (a1_1)) 5))) (wrap64 (1 + (Int.tmod (wrap64 (a1_2)) 20))) t309 t312 0 t303 t306) else (some false)))) = some r := by rw [if_neg (show ¬ (false = true) by decide)] at H; exact H
    clear H
    have H := H1
    clear H1
    replace H := Option.bind_eq_some_iff.mp H
    obtain ⟨t309, A250, H⟩ := H
    replace H : ((r08_Each.f kj5 t303).bind fun t312 => (if (t312.length : Int) = (mx (t309.length : Int) (wrap64 ((Int.tmod (wrap64 (a1_0)) 100) + (wrap64 (1 + (Int.tmod (wrap64 (a1_2)) 20)))))) then (l08_ExtentPuts.l0 kj5 t299 (Int.tmod (wrap64 (a1_0)) 100) (wrap64 (1 + (Int.tmod (wrap64 (a1_1)) 5))) (wrap64 (1 + (Int.tmod (wrap64 (a1_2)) 20))) t309 t312 0 t303 t306) else (some false))) = some r := H
    have A25 := Aside0.mk A250
    clear A250
    replace H := Option.bind_eq_some_iff.mp H
    obtain ⟨t312, A260, H⟩ := H
    replace H : (if (t312.length : Int) = (mx (t309.length : Int) (wrap64 ((Int.tmod (wrap64 (a1_0)) 100) + (wrap64 (1 + (Int.tmod (wrap64 (a1_2)) 20)))))) then (l08_ExtentPuts.l0 kj5 t299 (Int.tmod (wrap64 (a1_0)) 100) (wrap64 (1 + (Int.tmod (wrap64 (a1_1)) 5))) (wrap64 (1 + (Int.tmod (wrap64 (a1_2)) 20))) t309 t312 0 t303 t306) else (some false)) = some r := H
    have A26 := Aside0.mk A260
    clear A260
    obtain ⟨ji27, hji27⟩ : ∃ j_ : Int, (mx (t309.length : Int) (wrap64 ((Int.tmod (wrap64 (a1_0)) 100) + (wrap64 (1 + (Int.tmod (wrap64 (a1_2)) 20)))))) = j_ := ⟨_, rfl⟩
    replace H : (if (t312.length : Int) = (ji27) then (l08_ExtentPuts.l0 kj5 t299 (Int.tmod (wrap64 (a1_0)) 100) (wrap64 (1 + (Int.tmod (wrap64 (a1_1)) 5))) (wrap64 (1 + (Int.tmod (wrap64 (a1_2)) 20))) t309 t312 0 t303 t306) else (some false)) = some r := by first | (rw [hji27] at H; exact H) | (simp only [hji27] at H ⊢; exact H)
    (try rw [hji27] at A25)
    (try rw [hji27] at A26)
    have hji27_ : (if (t309.length : Int) < (wrap64 ((Int.tmod (wrap64 (a1_0)) 100) + (wrap64 (1 + (Int.tmod (wrap64 (a1_2)) 20))))) then (wrap64 ((Int.tmod (wrap64 (a1_0)) 100) + (wrap64 (1 + (Int.tmod (wrap64 (a1_2)) 20))))) else (t309.length : Int)) = ji27 := hji27
    by_cases c28 : (t312.length : Int) = (ji27)
    ·rw [if_pos c28] at H
     have c28b0 : ((t312.length : Int) == (ji27)) = true := beq_iff_eq.mpr c28
     have c28b1 : ((t312.length : Int) != (ji27)) = false := bne_eq_false_iff_eq.mpr c28
     clear c28
     have H' := Aside0.mk H
     clear H
     try go_wp2
     have n0_ := Aside0.mk (Kd.R_drew HO_6.out)
     have n1_ := Aside0.mk (Kd.R_drew HO_308000.out)
     have n2_ := Aside0.mk (blk_drew BK298.out)
     have n3_ := Aside0.mk (blk_drew BK307.out)
     have n4_ := Aside0.mk (below_drew1 HB.out)
     clear HO_6
     clear HO_308000
     clear BK298
     clear BK307
     clear HB
     have HO_6 := n0_
     have HO_308000 := n1_
     have BK298 := n2_
     have BK307 := n3_
     have HB := n4_
     clear n0_ n1_ n2_ n3_ n4_
     refine start_ (n := 7) (S := fun w' => w'.cell? ⟨gb307, 0, none⟩ = some (.slice Ao14 t303.length co14) ∧ w'.cell? ⟨gb307, 1, none⟩ = some (.int .i64 t306)) (ds := []) #[false, false, false, false, false, false, false] (by kernel_rfl) rfl rfl ⟨(blk_cell BK307.out 0).trans rfl, (blk_cell BK307.out 1).trans rfl⟩ (fun hHeld => ?_)
     generalize wc.drew = w29 at HO_6 HO_308000 BK298 BK307 HB hHeld ⊢
     refine pure_ (i := 0) (N := some 46) (v := ?_) (a' := ?_) #[true, false, false, false, false, false, false] rfl rfl (by kernel_rfl) (fun _ _ _ h => h) (Or.inl ⟨by rfl, ?_⟩) ?_ ?_
     rotate_left
     ·intro w'
      go_simp
      with_reducible rfl
     rotate_left
     ·simp only [Act.put, List.setIfInBounds_toArray, List.set_cons_zero, List.set_cons_succ, i64_w, i32_w]
      rfl
     refine pure_ (i := 2) (N := some 48) (v := ?_) (a' := ?_) #[true, false, true, false, false, false, false] rfl rfl (by kernel_rfl) (fun _ _ _ h => h) (Or.inl ⟨by rfl, ?_⟩) ?_ ?_
     rotate_left
     ·intro w'
      go_simp
      with_reducible rfl
     rotate_left
     ·simp only [Act.put, List.setIfInBounds_toArray, List.set_cons_zero, List.set_cons_succ, i64_w, i32_w]
      rfl
     refine take_ (i := 3) (N := some 49) (v := ?_) (a' := ?_) #[true, false, true, true, false, false, false] rfl rfl (by kernel_rfl) (fun _ _ _ h => h) (Or.inl ⟨by rfl, ?_⟩) hHeld ?_ ?_
     rotate_left
     ·rintro w' ⟨s0, s1⟩
      go_simp
      with_reducible rfl
     rotate_left
     ·simp only [Act.put, List.setIfInBounds_toArray, List.set_cons_zero, List.set_cons_succ, i64_w, i32_w]
      rfl
     refine one_ (i := 1) (N := some 47) #[true, true, true, true, false, false, false] rfl rfl (by kernel_rfl) (by decide) (fun K hK => ?_)
     refine goes_ Try.func12 (by kernel_rfl) rfl #[.slice Ao11 t300.length co11] (by rfl) rfl rfl (by (try simp only [List.map_toArray, List.map_cons, List.map_nil]); first | done | rfl | (simp only [List.length_drop, List.length_take]; rfl)) ?_
     with_reducible refine (r08_Each.calls kj5 _ _ t300 t309 _ ?side1 ?side2 A25.out).mono ?_
     (case side1 => repeat (first | exact (Kd.R_reads' HO_6.out).2.2 | (with_reducible refine Kd.C_alloc ?_ _) | (with_reducible refine Kd.C_drewN ?_ _) | (with_reducible refine Kd.C_drew ?_)))
     (case side2 => exact (Kd.R_reads' HO_6.out).2.1)
     rintro e w30 ⟨v310, rfl, ho0, hb⟩
     refine ⟨_, rfl, ?_⟩
     have n0_ := Aside0.mk (Kd.R_below (by (with_reducible repeat (first | apply Kd.R_alloc | apply Kd.R_drewN | apply Kd.R_drew)); exact HO_6.out) hb)
     have n1_ := Aside0.mk (Kd.R_below (by (with_reducible repeat (first | apply Kd.R_alloc | apply Kd.R_drewN | apply Kd.R_drew)); exact HO_308000.out) hb)
     have n2_ := Aside0.mk (Kd.R_lower ho0 (below_size (by repeat (first | (with_reducible first | exact HB.out | apply below_alloc | apply pw_below_drewN | apply below_drew1 | refine below_set ?_ GE298.out | refine below_set ?_ GE307.out) | exact HB.out))))
     have n3_ := Aside0.mk (blk_below (g := gb298) (o := .cells #[.int .u8 a1_0, .int .u8 a1_1, .int .u8 a1_2] 37 (0, 0)) (by (with_reducible repeat (first | refine blk_drewN ?_ _ | refine blk_drew ?_ | refine blk_alloc ?_ _)); exact BK298.out) hb)
     have n4_ := Aside0.mk (blk_below (g := gb307) (o := .cells #[.slice Ao14 t303.length co14, .int .i64 t306] 40 (0, 0)) (by (with_reducible repeat (first | refine blk_drewN ?_ _ | refine blk_drew ?_ | refine blk_alloc ?_ _)); exact BK307.out) hb)
     have n5_ := Aside0.mk (below_step (by repeat (first | (with_reducible first | exact HB.out | apply below_alloc | apply pw_below_drewN | apply below_drew1 | refine below_set ?_ GE298.out | refine below_set ?_ GE307.out) | exact HB.out)) hb)
     clear HO_6
     clear HO_308000
     clear BK298
     clear BK307
     clear HB
     have HO_6 := n0_
     have HO_308000 := n1_
     have HO311 := n2_
     have BK298 := n3_
     have BK307 := n4_
     have HB := n5_
     clear n0_ n1_ n2_ n3_ n4_ n5_
     (try clear hb)
     (try clear hb2)
     (try clear hk)
     (try clear hi)
     (try clear ho0)
     refine hK.out _ _ ⟨(blk_cell BK307.out 0).trans rfl, (blk_cell BK307.out 1).trans rfl⟩ (fun hHeld => ?_)
     clear hK K
     refine norm_ (a' := ?_) ?_ ?_
     rotate_left
     ·show Act.put _ (some 47) _ = _
      simp only [Act.put, List.setIfInBounds_toArray, List.set_cons_zero, List.set_cons_succ, i64_w, i32_w]
      rfl
     refine one_ (i := 4) (N := some 50) #[true, true, true, true, true, false, false] rfl rfl (by kernel_rfl) (by decide) (fun K hK => ?_)
     refine goes_ Try.func12 (by kernel_rfl) rfl #[.slice Ao14 t303.length co14] (by rfl) rfl rfl (by (try simp only [List.map_toArray, List.map_cons, List.map_nil]); first | done | rfl | (simp only [List.length_drop, List.length_take]; rfl)) ?_
     with_reducible refine (r08_Each.calls kj5 _ _ t303 t312 _ ?side1 ?side2 A26.out).mono ?_
     (case side1 => repeat (first | exact (Kd.R_reads' HO_308000.out).2.2 | (with_reducible refine Kd.C_alloc ?_ _) | (with_reducible refine Kd.C_drewN ?_ _) | (with_reducible refine Kd.C_drew ?_)))
     (case side2 => exact (Kd.R_reads' HO_308000.out).2.1)
     rintro e w31 ⟨v313, rfl, ho0, hb⟩
     refine ⟨_, rfl, ?_⟩
     have n0_ := Aside0.mk (Kd.R_below (by (with_reducible repeat (first | apply Kd.R_alloc | apply Kd.R_drewN | apply Kd.R_drew)); exact HO_6.out) hb)
     have n1_ := Aside0.mk (Kd.R_below (by (with_reducible repeat (first | apply Kd.R_alloc | apply Kd.R_drewN | apply Kd.R_drew)); exact HO_308000.out) hb)
     have n2_ := Aside0.mk (Kd.R_elder' (by (with_reducible repeat (first | apply Kd.R_alloc | apply Kd.R_drewN | apply Kd.R_drew)); exact HO311.out) (Kd.R_base ho0) hb)
     have n3_ := Aside0.mk (Kd.R_lower (Kd.R_new' ho0 (Kd.R_lt (by (with_reducible repeat (first | apply Kd.R_alloc | apply Kd.R_drewN | apply Kd.R_drew)); exact HO311.out))) (below_size (by repeat (first | (with_reducible first | exact HB.out | apply below_alloc | apply pw_below_drewN | apply below_drew1 | refine below_set ?_ GE298.out | refine below_set ?_ GE307.out) | exact HB.out))))
     have n4_ := Aside0.mk (blk_below (g := gb298) (o := .cells #[.int .u8 a1_0, .int .u8 a1_1, .int .u8 a1_2] 37 (0, 0)) (by (with_reducible repeat (first | refine blk_drewN ?_ _ | refine blk_drew ?_ | refine blk_alloc ?_ _)); exact BK298.out) hb)
     have n5_ := Aside0.mk (blk_below (g := gb307) (o := .cells #[.slice Ao14 t303.length co14, .int .i64 t306] 40 (0, 0)) (by (with_reducible repeat (first | refine blk_drewN ?_ _ | refine blk_drew ?_ | refine blk_alloc ?_ _)); exact BK307.out) hb)
     have n6_ := Aside0.mk (below_step (by repeat (first | (with_reducible first | exact HB.out | apply below_alloc | apply pw_below_drewN | apply below_drew1 | refine below_set ?_ GE298.out | refine below_set ?_ GE307.out) | exact HB.out)) hb)
     clear HO_6
     clear HO_308000
     clear HO311
     clear BK298
     clear BK307
     clear HB
     have HO_6 := n0_
     have HO_308000 := n1_
     have HO311 := n2_
     have HO314 := n3_
     have BK298 := n4_
     have BK307 := n5_
     have HB := n6_
     clear n0_ n1_ n2_ n3_ n4_ n5_ n6_
     (try clear hb)
     (try clear hb2)
     (try clear hk)
     (try clear hi)
     (try clear ho0)
     refine hK.out _ _ ⟨(blk_cell BK307.out 0).trans rfl, (blk_cell BK307.out 1).trans rfl⟩ (fun hHeld => ?_)
     clear hK K
     refine norm_ (a' := ?_) ?_ ?_
     rotate_left
     ·show Act.put _ (some 50) _ = _
      simp only [Act.put, List.setIfInBounds_toArray, List.set_cons_zero, List.set_cons_succ, i64_w, i32_w]
      rfl
     refine pure_ (i := 5) (N := some 11) (v := ?_) (a' := ?_) #[true, true, true, true, true, true, false] rfl rfl (by kernel_rfl) (fun _ _ _ h => h) (Or.inl ⟨by rfl, ?_⟩) ?_ ?_
     rotate_left
     ·intro w'
      go_simp
      with_reducible rfl
     rotate_left
     ·simp only [Act.put, List.setIfInBounds_toArray, List.set_cons_zero, List.set_cons_succ, i64_w, i32_w]
      rfl
     refine pure_ (i := 6) (N := some 12) (v := ?_) (a' := ?_) #[true, true, true, true, true, true, true] rfl rfl (by kernel_rfl) (fun _ _ _ h => h) (Or.inl ⟨by rfl, ?_⟩) ?_ ?_
     rotate_left
     ·intro w'
      go_simp
      with_reducible rfl
     rotate_left
     ·simp only [Act.put, List.setIfInBounds_toArray, List.set_cons_zero, List.set_cons_succ, i64_w, i32_w]
      rfl
     refine done_ (by kernel_rfl) ?_
     obtain ⟨Ao32, co32, eo32⟩ := Kd.R_slice HO314.out
     subst eo32
     obtain ⟨Ao33, co33, eo33⟩ := Kd.R_slice HO311.out
     subst eo33
     try go_wp2
     go_loopg [13] kj5 (fun kq v13 w' => ∃ (x13_2 : Int), v13 = .int .i64 x13_2 ∧ Aside0 (l08_ExtentPuts.l0 kq t299 (Int.tmod (wrap64 (a1_0)) 100) (wrap64 (1 + (Int.tmod (wrap64 (a1_1)) 5))) (wrap64 (1 + (Int.tmod (wrap64 (a1_2)) 20))) t309 t312 x13_2 t303 t306 = some r) ∧ Aside0 (kq ≤ kj5) ∧ Aside0 (Kd.R k32 32 w' w.heap.size (fun k_ => some k_ ≠ ((.slice Ao32 t312.length co32) : Value).ownBlock) (.slice Ao33 t309.length co33) t309) ∧ Aside0 (Kd.R k32 32 w' w.heap.size (fun k_ => some k_ ≠ ((.slice Ao33 t309.length co33) : Value).ownBlock) (.slice Ao32 t312.length co32) t312) ∧ Aside0 (Kd.R k58 58 w' w.heap.size (fun _ => True) (.slice Ao14 t303.length co14) t303) ∧ Aside0 (w'.heap[gb298]? = some (.cells #[.int .u8 a1_0, .int .u8 a1_1, .int .u8 a1_2] 37 (0, 0))) ∧ Aside0 (w'.heap[gb307]? = some (.cells #[(.slice Ao14 t303.length co14), .int .i64 t306] 40 (0, 0))) ∧ Aside0 (Below w.heap.size w w'))
     case atStart => exact ⟨(0), (by first | rfl | (simp; done) | (simp [*]; done)), H', ⟨Nat.le_refl _⟩, ⟨by (with_reducible repeat (first | apply Kd.R_alloc | apply Kd.R_drewN | apply Kd.R_drew)); exact Kd.R_mono HO311.out (fun _ hk => hk.2)⟩, ⟨by (with_reducible repeat (first | apply Kd.R_alloc | apply Kd.R_drewN | apply Kd.R_drew)); exact Kd.R_mono HO314.out (fun _ hk => hk.2)⟩, ⟨by (with_reducible repeat (first | apply Kd.R_alloc | apply Kd.R_drewN | apply Kd.R_drew)); exact Kd.R_mono HO_308000.out (fun _ hk => trivial)⟩, ⟨by (with_reducible repeat (first | refine blk_drewN ?_ _ | refine blk_drew ?_ | refine blk_alloc ?_ _)); exact BK298.out⟩, ⟨by (with_reducible repeat (first | refine blk_drewN ?_ _ | refine blk_drew ?_ | refine blk_alloc ?_ _)); exact BK307.out⟩, ⟨by repeat (first | (with_reducible first | exact HB.out | apply below_alloc | apply pw_below_drewN | apply below_drew1 | refine below_set ?_ GE298.out | refine below_set ?_ GE307.out) | exact HB.out)⟩⟩
     case round =>
      clear H'
      try clear c1
      try clear c2
      try clear p2
      try clear c4
      try clear p6
      try clear c10
      try clear c11
      try clear c12
      try clear c15
      try clear c17
      try clear c17b0
      try clear c17b1
      try clear c19
      try clear c20
      try clear c22
      try clear c24
      try clear c28
      try clear c28b0
      try clear c28b1
      try clear hcz16_0
      try clear hcz16_1
      try clear hcz20_0
      try clear hcz20_1
      try clear hcz23_0
      try clear hcz23_1
      try clear hfz16_0
      try clear hfz16_1
      try clear hfz20_0
      try clear hfz20_1
      try clear hfz23_0
      try clear hfz23_1
      try clear p2
      try clear p6
      obtain ⟨x13_2, rfl, HA, HK2, HO_11, HO_12, HO_308000, BK298, BK307, HB⟩ := hrel
      cases gk with
      | zero => exact absurd HA.out (by simp [l08_ExtentPuts.l0])
      | succ k2 =>
       have H := HA.out
       clear HA
       simp only [l08_ExtentPuts.l0] at H
       by_cases c34 : x13_2 < (t312.length : Int)
       ·rw [if_pos c34] at H
        have c34b0 : decide (x13_2 < (t312.length : Int)) = true := decide_eq_true c34
        clear c34
        have HC35 := Aside0.mk H
        clear H
        go_upto_region 14 with (first | ((with_reducible refine gate_dst (N := 14) rfl ?_); refine box_event ?hg (N := 14) ?hd (cs := #[.int .i64 0, .int .i64 0]) (t := 32) ?hr ?_; (case hd => rfl); (case hg => rfl); (case hr => first | (go_simp; done) | (go_simp; rfl)); intro gb321 hg w36 hbox hb; have n0_ := Aside0.mk (Kd.R_below (Kd.R_elderB (by (with_reducible repeat (first | apply Kd.R_alloc | apply Kd.R_drewN | apply Kd.R_drew)); exact HO_11.out) gb321 (Nat.le_of_eq hg.symm)) hb); have n1_ := Aside0.mk (Kd.R_below (Kd.R_elderB (by (with_reducible repeat (first | apply Kd.R_alloc | apply Kd.R_drewN | apply Kd.R_drew)); exact HO_12.out) gb321 (Nat.le_of_eq hg.symm)) hb); have n2_ := Aside0.mk (Kd.R_below (by (with_reducible repeat (first | apply Kd.R_alloc | apply Kd.R_drewN | apply Kd.R_drew)); exact HO_308000.out) hb); have n3_ := Aside0.mk (blk_below (g := gb298) (o := .cells #[.int .u8 a1_0, .int .u8 a1_1, .int .u8 a1_2] 37 (0, 0)) (by (with_reducible repeat (first | refine blk_drewN ?_ _ | refine blk_drew ?_ | refine blk_alloc ?_ _)); exact BK298.out) hb); have n4_ := Aside0.mk (blk_below (g := gb307) (o := .cells #[.slice Ao14 t303.length co14, .int .i64 t306] 40 (0, 0)) (by (with_reducible repeat (first | refine blk_drewN ?_ _ | refine blk_drew ?_ | refine blk_alloc ?_ _)); exact BK307.out) hb); have n5_ := Aside0.mk (below_step (by repeat (first | (with_reducible first | exact HB.out | apply below_alloc | apply pw_below_drewN | apply below_drew1 | refine below_set ?_ GE298.out | refine below_set ?_ GE307.out) | exact HB.out)) hb); have n6_ := Aside0.mk (hbox); have n7_ := Aside0.mk ((by rw [hg]; exact (below_size (by repeat (first | (with_reducible first | exact HB.out | apply below_alloc | apply pw_below_drewN | apply below_drew1 | refine below_set ?_ GE298.out | refine below_set ?_ GE307.out) | exact HB.out))) : w.heap.size ≤ gb321)); have n8_ := Aside0.mk ((by rw [hg]; exact (below_size (by repeat (first | (with_reducible first | exact HB.out | apply below_alloc | apply pw_below_drewN | apply below_drew1 | refine below_set ?_ GE298.out | refine below_set ?_ GE307.out) | exact HB.out))) : w.heap.size ≤ gb321)); have n9_ := Aside0.mk ((by rw [hg]; exact Nat.ne_of_lt (blk_lt (g := gb298) (o := .cells #[.int .u8 a1_0, .int .u8 a1_1, .int .u8 a1_2] 37 (0, 0)) (by (with_reducible repeat (first | refine blk_drewN ?_ _ | refine blk_drew ?_ | refine blk_alloc ?_ _)); exact BK298.out)) : gb298 ≠ gb321)); have n10_ := Aside0.mk ((by rw [hg]; exact Nat.ne_of_gt (blk_lt (g := gb298) (o := .cells #[.int .u8 a1_0, .int .u8 a1_1, .int .u8 a1_2] 37 (0, 0)) (by (with_reducible repeat (first | refine blk_drewN ?_ _ | refine blk_drew ?_ | refine blk_alloc ?_ _)); exact BK298.out)) : gb321 ≠ gb298)); have n11_ := Aside0.mk ((by rw [hg]; exact Nat.ne_of_lt (blk_lt (g := gb307) (o := .cells #[.slice Ao14 t303.length co14, .int .i64 t306] 40 (0, 0)) (by (with_reducible repeat (first | refine blk_drewN ?_ _ | refine blk_drew ?_ | refine blk_alloc ?_ _)); exact BK307.out)) : gb307 ≠ gb321)); have n12_ := Aside0.mk ((by rw [hg]; exact Nat.ne_of_gt (blk_lt (g := gb307) (o := .cells #[.slice Ao14 t303.length co14, .int .i64 t306] 40 (0, 0)) (by (with_reducible repeat (first | refine blk_drewN ?_ _ | refine blk_drew ?_ | refine blk_alloc ?_ _)); exact BK307.out)) : gb321 ≠ gb307)); clear HO_11; clear HO_12; clear HO_308000; clear BK298; clear BK307; clear HB; have HO_11 := n0_; have HO_12 := n1_; have HO_308000 := n2_; have BK298 := n3_; have BK307 := n4_; have HB := n5_; have BK321 := n6_; have GW321 := n7_; have GE321 := n8_; have NB298_321 := n9_; have NB321_298 := n10_; have NB307_321 := n11_; have NB321_307 := n12_; clear n0_ n1_ n2_ n3_ n4_ n5_ n6_ n7_ n8_ n9_ n10_ n11_ n12_; clear hb hbox hg; have hnb37 := NB321_298.out; have hnc37 := NB298_321.out; have hnb38 := NB321_307.out; have hnc38 := NB307_321.out; have hcz39_0 : w36.cell? ⟨gb321, 0, none⟩ = some (.int .i64 0) := (blk_cell BK321.out 0).trans rfl; have hcz39_1 : w36.cell? ⟨gb321, 1, none⟩ = some (.int .i64 0) := (blk_cell BK321.out 1).trans rfl; have hfz39_0 := blk_frozen BK321.out 0; have hfz39_1 := blk_frozen BK321.out 1))
        (try simp only [Act.put, List.setIfInBounds_toArray, List.set_cons_zero, List.set_cons_succ])
        go_cut [76] (fun v76 wc => ∃ (kq : Nat) (x76_34 : Bool), v76 = .bool x76_34 ∧ Aside0 (l08_ExtentPuts.j2 kq t299 (Int.tmod (wrap64 (a1_0)) 100) (wrap64 (1 + (Int.tmod (wrap64 (a1_1)) 5))) (wrap64 (1 + (Int.tmod (wrap64 (a1_2)) 20))) t309 t312 x13_2 x76_34 t303 t306 0 0 = some r) ∧ Aside0 (kq ≤ k2) ∧ Aside0 (Kd.R k32 32 wc w.heap.size (fun k_ => some k_ ≠ ((.slice Ao32 t312.length co32) : Value).ownBlock ∧ k_ ≠ gb321) (.slice Ao33 t309.length co33) t309) ∧ Aside0 (Kd.R k32 32 wc w.heap.size (fun k_ => some k_ ≠ ((.slice Ao33 t309.length co33) : Value).ownBlock ∧ k_ ≠ gb321) (.slice Ao32 t312.length co32) t312) ∧ Aside0 (Kd.R k58 58 wc w.heap.size (fun _ => True) (.slice Ao14 t303.length co14) t303) ∧ Aside0 (wc.heap[gb298]? = some (.cells #[.int .u8 a1_0, .int .u8 a1_1, .int .u8 a1_2] 37 (0, 0))) ∧ Aside0 (wc.heap[gb307]? = some (.cells #[(.slice Ao14 t303.length co14), .int .i64 t306] 40 (0, 0))) ∧ Aside0 (wc.heap[gb321]? = some (.cells #[.int .i64 0, .int .i64 0] 32 (0, 0))) ∧ Aside0 (Below w.heap.size w wc))
        case first =>
         have H := HC35.out
         clear HC35
         by_cases c40 : x13_2 ≥ (Int.tmod (wrap64 (a1_0)) 100)
         ·rw [if_pos c40] at H
          have c40b0 : decide ((Int.tmod (wrap64 (a1_0)) 100) ≤ x13_2) = true := decide_eq_true c40
          clear c40
          (first | rw [c40b0] | (simp only [i64_w, i32_w]; rw [c40b0]) | skip)
          have H' := Aside0.mk H
          clear H
          go_wp2
          go_meet
          case rel => exact ⟨_, (decide (x13_2 < (wrap64 ((Int.tmod (wrap64 (a1_0)) 100) + (wrap64 (1 + (Int.tmod (wrap64 (a1_2)) 20))))))), (by first | rfl | (simp; done) | (simp [*]; done)), H', ⟨by have := HJ5.out; have := HK2.out; first | omega | exact Nat.le_refl _⟩, ⟨by (with_reducible repeat (first | apply Kd.R_alloc | apply Kd.R_drewN | apply Kd.R_drew)); exact Kd.R_mono (Kd.R_far (p := ⟨gb321, 1, none⟩) (Kd.R_far (p := ⟨gb321, 0, none⟩) (Kd.R_mono HO_11.out (fun k_ hk => (⟨hk, hk.2⟩ : _ ∧ k_ ≠ gb321))) (fun _ hk => hk.2) (.int .i64 0)) (fun _ hk => hk.2) (.int .i64 0)) (fun _ hk => ⟨hk.1.1, hk.1.2⟩)⟩, ⟨by (with_reducible repeat (first | apply Kd.R_alloc | apply Kd.R_drewN | apply Kd.R_drew)); exact Kd.R_mono (Kd.R_far (p := ⟨gb321, 1, none⟩) (Kd.R_far (p := ⟨gb321, 0, none⟩) (Kd.R_mono HO_12.out (fun k_ hk => (⟨hk, hk.2⟩ : _ ∧ k_ ≠ gb321))) (fun _ hk => hk.2) (.int .i64 0)) (fun _ hk => hk.2) (.int .i64 0)) (fun _ hk => ⟨hk.1.1, hk.1.2⟩)⟩, ⟨by (with_reducible repeat (first | apply Kd.R_alloc | apply Kd.R_drewN | apply Kd.R_drew)); exact Kd.R_mono (Kd.R_far (p := ⟨gb321, 1, none⟩) (Kd.R_far (p := ⟨gb321, 0, none⟩) (Kd.R_types HO_308000.out BK321.out (by decide)) (fun _ hk => hk.2) (.int .i64 0)) (fun _ hk => hk.2) (.int .i64 0)) (fun _ hk => trivial)⟩, ⟨by (with_reducible repeat (first | refine blk_drewN ?_ _ | refine blk_drew ?_ | refine blk_alloc ?_ _)); refine blk_far ?_ NB298_321.out _; (with_reducible repeat (first | refine blk_drewN ?_ _ | refine blk_drew ?_ | refine blk_alloc ?_ _)); refine blk_far ?_ NB298_321.out _; (with_reducible repeat (first | refine blk_drewN ?_ _ | refine blk_drew ?_ | refine blk_alloc ?_ _)); exact BK298.out⟩, ⟨by (with_reducible repeat (first | refine blk_drewN ?_ _ | refine blk_drew ?_ | refine blk_alloc ?_ _)); refine blk_far ?_ NB307_321.out _; (with_reducible repeat (first | refine blk_drewN ?_ _ | refine blk_drew ?_ | refine blk_alloc ?_ _)); refine blk_far ?_ NB307_321.out _; (with_reducible repeat (first | refine blk_drewN ?_ _ | refine blk_drew ?_ | refine blk_alloc ?_ _)); exact BK307.out⟩, ⟨by (with_reducible repeat (first | refine blk_drewN ?_ _ | refine blk_drew ?_ | refine blk_alloc ?_ _)); refine blk_put (cs := #[.int .i64 0, .int .i64 0]) ?_ 1 _ rfl; (with_reducible repeat (first | refine blk_drewN ?_ _ | refine blk_drew ?_ | refine blk_alloc ?_ _)); refine blk_put (cs := #[.int .i64 0, .int .i64 0]) ?_ 0 _ rfl; (with_reducible repeat (first | refine blk_drewN ?_ _ | refine blk_drew ?_ | refine blk_alloc ?_ _)); exact BK321.out⟩, ⟨by repeat (first | (with_reducible first | exact HB.out | apply below_alloc | apply pw_below_drewN | apply below_drew1 | refine below_set ?_ GE298.out | refine below_set ?_ GE307.out | refine below_set ?_ GE321.out) | exact HB.out)⟩⟩
         ·rw [if_neg c40] at H
          have c40b0 : decide ((Int.tmod (wrap64 (a1_0)) 100) ≤ x13_2) = false := decide_eq_false c40
          clear c40
          (first | rw [c40b0] | (simp only [i64_w, i32_w]; rw [c40b0]) | skip)
          have H' := Aside0.mk H
          clear H
          go_wp2
          go_meet
          case rel => exact ⟨_, (false), (by first | rfl | (simp; done) | (simp [*]; done)), H', ⟨by have := HJ5.out; have := HK2.out; first | omega | exact Nat.le_refl _⟩, ⟨by (with_reducible repeat (first | apply Kd.R_alloc | apply Kd.R_drewN | apply Kd.R_drew)); exact Kd.R_mono (Kd.R_far (p := ⟨gb321, 1, none⟩) (Kd.R_far (p := ⟨gb321, 0, none⟩) (Kd.R_mono HO_11.out (fun k_ hk => (⟨hk, hk.2⟩ : _ ∧ k_ ≠ gb321))) (fun _ hk => hk.2) (.int .i64 0)) (fun _ hk => hk.2) (.int .i64 0)) (fun _ hk => ⟨hk.1.1, hk.1.2⟩)⟩, ⟨by (with_reducible repeat (first | apply Kd.R_alloc | apply Kd.R_drewN | apply Kd.R_drew)); exact Kd.R_mono (Kd.R_far (p := ⟨gb321, 1, none⟩) (Kd.R_far (p := ⟨gb321, 0, none⟩) (Kd.R_mono HO_12.out (fun k_ hk => (⟨hk, hk.2⟩ : _ ∧ k_ ≠ gb321))) (fun _ hk => hk.2) (.int .i64 0)) (fun _ hk => hk.2) (.int .i64 0)) (fun _ hk => ⟨hk.1.1, hk.1.2⟩)⟩, ⟨by (with_reducible repeat (first | apply Kd.R_alloc | apply Kd.R_drewN | apply Kd.R_drew)); exact Kd.R_mono (Kd.R_far (p := ⟨gb321, 1, none⟩) (Kd.R_far (p := ⟨gb321, 0, none⟩) (Kd.R_types HO_308000.out BK321.out (by decide)) (fun _ hk => hk.2) (.int .i64 0)) (fun _ hk => hk.2) (.int .i64 0)) (fun _ hk => trivial)⟩, ⟨by (with_reducible repeat (first | refine blk_drewN ?_ _ | refine blk_drew ?_ | refine blk_alloc ?_ _)); refine blk_far ?_ NB298_321.out _; (with_reducible repeat (first | refine blk_drewN ?_ _ | refine blk_drew ?_ | refine blk_alloc ?_ _)); refine blk_far ?_ NB298_321.out _; (with_reducible repeat (first | refine blk_drewN ?_ _ | refine blk_drew ?_ | refine blk_alloc ?_ _)); exact BK298.out⟩, ⟨by (with_reducible repeat (first | refine blk_drewN ?_ _ | refine blk_drew ?_ | refine blk_alloc ?_ _)); refine blk_far ?_ NB307_321.out _; (with_reducible repeat (first | refine blk_drewN ?_ _ | refine blk_drew ?_ | refine blk_alloc ?_ _)); refine blk_far ?_ NB307_321.out _; (with_reducible repeat (first | refine blk_drewN ?_ _ | refine blk_drew ?_ | refine blk_alloc ?_ _)); exact BK307.out⟩, ⟨by (with_reducible repeat (first | refine blk_drewN ?_ _ | refine blk_drew ?_ | refine blk_alloc ?_ _)); refine blk_put (cs := #[.int .i64 0, .int .i64 0]) ?_ 1 _ rfl; (with_reducible repeat (first | refine blk_drewN ?_ _ | refine blk_drew ?_ | refine blk_alloc ?_ _)); refine blk_put (cs := #[.int .i64 0, .int .i64 0]) ?_ 0 _ rfl; (with_reducible repeat (first | refine blk_drewN ?_ _ | refine blk_drew ?_ | refine blk_alloc ?_ _)); exact BK321.out⟩, ⟨by repeat (first | (with_reducible first | exact HB.out | apply below_alloc | apply pw_below_drewN | apply below_drew1 | refine below_set ?_ GE298.out | refine below_set ?_ GE307.out | refine below_set ?_ GE321.out) | exact HB.out)⟩⟩
        case rest =>
         clear HC35
         try clear c1
         try clear c2
         try clear p2
         try clear c3
         try clear c4
         try clear p6
         try clear c10
         try clear c11
         try clear c12
         try clear c15
         try clear c17
         try clear c17b0
         try clear c17b1
         try clear c19
         try clear c20
         try clear c22
         try clear c24
         try clear c28
         try clear c28b0
         try clear c28b1
         try clear c34
         try clear c34b0
         try clear c37
         try clear c38
         try clear c40
         try clear c40b0
         try clear hcz16_0
         try clear hcz16_1
         try clear hcz20_0
         try clear hcz20_1
         try clear hcz23_0
         try clear hcz23_1
         try clear hcz39_0
         try clear hcz39_1
         try clear hfz16_0
         try clear hfz16_1
         try clear hfz20_0
         try clear hfz20_1
         try clear hfz23_0
         try clear hfz23_1
         try clear hfz39_0
         try clear hfz39_1
         try clear p2
         try clear p6
         obtain ⟨kq, x76_34, rfl, HA, HJ34, HO_11, HO_12, HO_308000, BK298, BK307, BK321, HB⟩ := hcut
         cases kq with
         | zero => exact absurd HA.out (by simp [l08_ExtentPuts.j2])
         | succ kj34 =>
          have H := HA.out
          clear HA
          simp only [l08_ExtentPuts.j2] at H
          by_cases c41 : x76_34 = true
          ·subst c41
           have H1 : (if 0 ≤ x13_2 then (if x13_2 < (t312.length : Int) then (if (!(((rd_T32 t312 x13_2).f0) == (wrap64 (1 + (Int.tmod (wrap64 (a1_1)) 5)))) || (!(((rd_T32 t312 x13_2).f1) == (wrap64 (x13_2 - (Int.tmod (wrap64 (a1_0)) 100)))))) = true then (some false) else (l08_ExtentPuts.l0 kj34 t299 (Int.tmod (wrap64 (a1_0)) 100) (wrap64 (1 + (Int.tmod (wrap64 (a1_1)) 5))) (wrap64 (1 + (Int.tmod (wrap64 (a1_2)) 20))) t309 t312 (wrap64 (x13_2 + 1)) t303 t306)) else (none)) else (none)) = some r := by rw [if_pos rfl] at H; exact H
           clear H
           have H := H1
           clear H1
           by_cases c42 : 0 ≤ x13_2
           ·rw [if_pos c42] at H
            have c42b0 : decide (0 ≤ x13_2) = true := decide_eq_true c42
            clear c42
            by_cases c43 : x13_2 < (t312.length : Int)
            ·rw [if_pos c43] at H
             have c43b0 : decide (x13_2 < (t312.length : Int)) = true := decide_eq_true c43
             clear c43
             by_cases c44 : (!(((rd_T32 t312 x13_2).f0) == (wrap64 (1 + (Int.tmod (wrap64 (a1_1)) 5)))) || (!(((rd_T32 t312 x13_2).f1) == (wrap64 (x13_2 - (Int.tmod (wrap64 (a1_0)) 100)))))) = true
             ·rw [if_pos c44] at H
              have c44b0 : (!(((rd_T32 t312 x13_2).f0) == (wrap64 (1 + (Int.tmod (wrap64 (a1_1)) 5)))) || (!(((rd_T32 t312 x13_2).f1) == (wrap64 (x13_2 - (Int.tmod (wrap64 (a1_0)) 100)))))) = true := c44
              clear c44
              exact absurd ((Option.some.inj H).trans HLAW.out) (by decide)
             ·rw [if_neg c44] at H
              have c44b0 : (!(((rd_T32 t312 x13_2).f0) == (wrap64 (1 + (Int.tmod (wrap64 (a1_1)) 5)))) || (!(((rd_T32 t312 x13_2).f1) == (wrap64 (x13_2 - (Int.tmod (wrap64 (a1_0)) 100)))))) = false := by simpa using c44
              clear c44
              have H' := Aside0.mk H
              clear H
              have hnb45 := NB321_298.out
              have hnc45 := NB298_321.out
              have hnb46 := NB321_307.out
              have hnc46 := NB307_321.out
              have hcz47_0 : wc.cell? ⟨gb321, 0, none⟩ = some (.int .i64 0) := (blk_cell BK321.out 0).trans rfl
              have hcz47_1 : wc.cell? ⟨gb321, 1, none⟩ = some (.int .i64 0) := (blk_cell BK321.out 1).trans rfl
              have hfz47_0 := blk_frozen BK321.out 0
              have hfz47_1 := blk_frozen BK321.out 1
              try go_wp2
              have n0_ : Aside0 (Kd.R k32 32 ((wc.setCell ⟨gb321, 0, none⟩ (.int .i64 (wrap64 (1 + (Int.tmod (wrap64 (a1_1)) 5))))).setCell ⟨gb321, 1, none⟩ (.int .i64 (wrap64 (x13_2 - (Int.tmod (wrap64 (a1_0)) 100))))) w.heap.size (fun k_ => some k_ ≠ (.slice Ao32 t312.length co32 : Value).ownBlock ∧ k_ ≠ gb321) (.slice Ao33 t309.length co33) t309) := ⟨by (with_reducible repeat (first | apply Kd.R_alloc | apply Kd.R_drewN | apply Kd.R_drew)); exact Kd.R_mono (Kd.R_far (p := ⟨gb321, 1, none⟩) (Kd.R_far (p := ⟨gb321, 0, none⟩) (Kd.R_mono HO_11.out (fun k_ hk => (⟨hk, hk.2⟩ : _ ∧ k_ ≠ gb321))) (fun _ hk => hk.2) (.int .i64 (wrap64 (1 + (Int.tmod (wrap64 (a1_1)) 5))))) (fun _ hk => hk.2) (.int .i64 (wrap64 (x13_2 - (Int.tmod (wrap64 (a1_0)) 100))))) (fun _ hk => ⟨hk.1.1, hk.1.2⟩)⟩
              have n1_ : Aside0 (Kd.R k32 32 ((wc.setCell ⟨gb321, 0, none⟩ (.int .i64 (wrap64 (1 + (Int.tmod (wrap64 (a1_1)) 5))))).setCell ⟨gb321, 1, none⟩ (.int .i64 (wrap64 (x13_2 - (Int.tmod (wrap64 (a1_0)) 100))))) w.heap.size (fun k_ => some k_ ≠ (.slice Ao33 t309.length co33 : Value).ownBlock ∧ k_ ≠ gb321) (.slice Ao32 t312.length co32) t312) := ⟨by (with_reducible repeat (first | apply Kd.R_alloc | apply Kd.R_drewN | apply Kd.R_drew)); exact Kd.R_mono (Kd.R_far (p := ⟨gb321, 1, none⟩) (Kd.R_far (p := ⟨gb321, 0, none⟩) (Kd.R_mono HO_12.out (fun k_ hk => (⟨hk, hk.2⟩ : _ ∧ k_ ≠ gb321))) (fun _ hk => hk.2) (.int .i64 (wrap64 (1 + (Int.tmod (wrap64 (a1_1)) 5))))) (fun _ hk => hk.2) (.int .i64 (wrap64 (x13_2 - (Int.tmod (wrap64 (a1_0)) 100))))) (fun _ hk => ⟨hk.1.1, hk.1.2⟩)⟩
              have n2_ : Aside0 (Kd.R k58 58 ((wc.setCell ⟨gb321, 0, none⟩ (.int .i64 (wrap64 (1 + (Int.tmod (wrap64 (a1_1)) 5))))).setCell ⟨gb321, 1, none⟩ (.int .i64 (wrap64 (x13_2 - (Int.tmod (wrap64 (a1_0)) 100))))) w.heap.size (fun _ => True) (.slice Ao14 t303.length co14) t303) := ⟨by (with_reducible repeat (first | apply Kd.R_alloc | apply Kd.R_drewN | apply Kd.R_drew)); exact Kd.R_mono (Kd.R_far (p := ⟨gb321, 1, none⟩) (Kd.R_far (p := ⟨gb321, 0, none⟩) (Kd.R_types HO_308000.out BK321.out (by decide)) (fun _ hk => hk.2) (.int .i64 (wrap64 (1 + (Int.tmod (wrap64 (a1_1)) 5))))) (fun _ hk => hk.2) (.int .i64 (wrap64 (x13_2 - (Int.tmod (wrap64 (a1_0)) 100))))) (fun _ hk => trivial)⟩
              have n3_ : Aside0 (((wc.setCell ⟨gb321, 0, none⟩ (.int .i64 (wrap64 (1 + (Int.tmod (wrap64 (a1_1)) 5))))).setCell ⟨gb321, 1, none⟩ (.int .i64 (wrap64 (x13_2 - (Int.tmod (wrap64 (a1_0)) 100))))).heap[gb298]? = some (.cells #[.int .u8 a1_0, .int .u8 a1_1, .int .u8 a1_2] 37 (0, 0))) := ⟨by (with_reducible repeat (first | refine blk_drewN ?_ _ | refine blk_drew ?_ | refine blk_alloc ?_ _)); refine blk_far ?_ NB298_321.out _; (with_reducible repeat (first | refine blk_drewN ?_ _ | refine blk_drew ?_ | refine blk_alloc ?_ _)); refine blk_far ?_ NB298_321.out _; (with_reducible repeat (first | refine blk_drewN ?_ _ | refine blk_drew ?_ | refine blk_alloc ?_ _)); exact BK298.out⟩
              have n4_ : Aside0 (((wc.setCell ⟨gb321, 0, none⟩ (.int .i64 (wrap64 (1 + (Int.tmod (wrap64 (a1_1)) 5))))).setCell ⟨gb321, 1, none⟩ (.int .i64 (wrap64 (x13_2 - (Int.tmod (wrap64 (a1_0)) 100))))).heap[gb307]? = some (.cells #[.slice Ao14 t303.length co14, .int .i64 t306] 40 (0, 0))) := ⟨by (with_reducible repeat (first | refine blk_drewN ?_ _ | refine blk_drew ?_ | refine blk_alloc ?_ _)); refine blk_far ?_ NB307_321.out _; (with_reducible repeat (first | refine blk_drewN ?_ _ | refine blk_drew ?_ | refine blk_alloc ?_ _)); refine blk_far ?_ NB307_321.out _; (with_reducible repeat (first | refine blk_drewN ?_ _ | refine blk_drew ?_ | refine blk_alloc ?_ _)); exact BK307.out⟩
              have n5_ : Aside0 (((wc.setCell ⟨gb321, 0, none⟩ (.int .i64 (wrap64 (1 + (Int.tmod (wrap64 (a1_1)) 5))))).setCell ⟨gb321, 1, none⟩ (.int .i64 (wrap64 (x13_2 - (Int.tmod (wrap64 (a1_0)) 100))))).heap[gb321]? = some (.cells #[.int .i64 (wrap64 (1 + (Int.tmod (wrap64 (a1_1)) 5))), .int .i64 (wrap64 (x13_2 - (Int.tmod (wrap64 (a1_0)) 100)))] 32 (0, 0))) := ⟨by (with_reducible repeat (first | refine blk_drewN ?_ _ | refine blk_drew ?_ | refine blk_alloc ?_ _)); refine blk_put (cs := #[.int .i64 (wrap64 (1 + (Int.tmod (wrap64 (a1_1)) 5))), .int .i64 0]) ?_ 1 _ rfl; (with_reducible repeat (first | refine blk_drewN ?_ _ | refine blk_drew ?_ | refine blk_alloc ?_ _)); refine blk_put (cs := #[.int .i64 0, .int .i64 0]) ?_ 0 _ rfl; (with_reducible repeat (first | refine blk_drewN ?_ _ | refine blk_drew ?_ | refine blk_alloc ?_ _)); exact BK321.out⟩
              have n6_ : Aside0 (Below w.heap.size w ((wc.setCell ⟨gb321, 0, none⟩ (.int .i64 (wrap64 (1 + (Int.tmod (wrap64 (a1_1)) 5))))).setCell ⟨gb321, 1, none⟩ (.int .i64 (wrap64 (x13_2 - (Int.tmod (wrap64 (a1_0)) 100)))))) := ⟨by repeat (first | (with_reducible first | exact HB.out | apply below_alloc | apply pw_below_drewN | apply below_drew1 | refine below_set ?_ GE298.out | refine below_set ?_ GE307.out | refine below_set ?_ GE321.out) | exact HB.out)⟩
              (try clear HO_11)
              (try clear HO_12)
              (try clear HO_308000)
              (try clear BK298)
              (try clear BK307)
              (try clear BK321)
              (try clear HB)
              generalize ((wc.setCell ⟨gb321, 0, none⟩ (.int .i64 (wrap64 (1 + (Int.tmod (wrap64 (a1_1)) 5))))).setCell ⟨gb321, 1, none⟩ (.int .i64 (wrap64 (x13_2 - (Int.tmod (wrap64 (a1_0)) 100))))) = w48 at n0_ n1_ n2_ n3_ n4_ n5_ n6_ ⊢
              have HO_11 := n0_
              have HO_12 := n1_
              have HO_308000 := n2_
              have BK298 := n3_
              have BK307 := n4_
              have BK321 := n5_
              have HB := n6_
              clear n0_ n1_ n2_ n3_ n4_ n5_ n6_
              have n0_ := Aside0.mk (Kd.R_drew HO_11.out)
              have n1_ := Aside0.mk (Kd.R_drew HO_12.out)
              have n2_ := Aside0.mk (Kd.R_drew HO_308000.out)
              have n3_ := Aside0.mk (blk_drew BK298.out)
              have n4_ := Aside0.mk (blk_drew BK307.out)
              have n5_ := Aside0.mk (blk_drew BK321.out)
              have n6_ := Aside0.mk (below_drew1 HB.out)
              clear HO_11
              clear HO_12
              clear HO_308000
              clear BK298
              clear BK307
              clear BK321
              clear HB
              have HO_11 := n0_
              have HO_12 := n1_
              have HO_308000 := n2_
              have BK298 := n3_
              have BK307 := n4_
              have BK321 := n5_
              have HB := n6_
              clear n0_ n1_ n2_ n3_ n4_ n5_ n6_
              have p322 : 0 ≤ (x13_2 : Int) := of_decide_eq_true (by first | (with_reducible assumption) | assumption)
              have q322 : x13_2 < (t312.length : Int) := of_decide_eq_true (by first | (with_reducible assumption) | assumption)
              obtain ⟨ad322, e322, hx322_0, hx322_1⟩ := at_T32 (Kd.R_reads' HO_12.out).2.2 x13_2 p322 q322
              cases e322
              replace p322 := eq_true p322
              replace q322 := eq_true q322
              refine start_ (n := 6) (S := fun w' => w'.cell? ⟨gb321, 0, none⟩ = some (.int .i64 (wrap64 (1 + (Int.tmod (wrap64 (a1_1)) 5)))) ∧ w'.cell? ⟨gb321, 1, none⟩ = some (.int .i64 (wrap64 (x13_2 - (Int.tmod (wrap64 (a1_0)) 100)))) ∧ w'.cell? (ad322.add ((x13_2).toNat * 2)) = some (.int .i64 ((rd_T32 t312 x13_2).f0)) ∧ w'.cell? ⟨(ad322.add ((x13_2).toNat * 2)).block, (ad322.add ((x13_2).toNat * 2)).off + 1, none⟩ = some (.int .i64 ((rd_T32 t312 x13_2).f1))) (ds := []) #[false, false, false, false, false, false] (by kernel_rfl) rfl rfl ⟨(blk_cell BK321.out 0).trans rfl, (blk_cell BK321.out 1).trans rfl, hx322_0, hx322_1⟩ (fun hHeld => ?_)
              generalize w48.drew = w49 at HO_11 HO_12 HO_308000 BK298 BK307 BK321 HB hx322_0 hx322_1 hHeld ⊢
              refine pure_ (i := 0) (N := some 90) (v := ?_) (a' := ?_) #[true, false, false, false, false, false] rfl rfl (by kernel_rfl) (fun _ _ _ h => h) (Or.inl ⟨by rfl, ?_⟩) ?_ ?_
              rotate_left
              ·intro w'
               go_simp
               with_reducible rfl
              rotate_left
              ·simp only [Act.put, List.setIfInBounds_toArray, List.set_cons_zero, List.set_cons_succ, i64_w, i32_w]
               rfl
              refine pure_ (i := 1) (N := some 91) (v := ?_) (a' := ?_) #[true, true, false, false, false, false] rfl rfl (by kernel_rfl) (fun _ _ _ h => h) (Or.inl ⟨by rfl, ?_⟩) ?_ ?_
              rotate_left
              ·intro w'
               go_simp
               with_reducible rfl
              rotate_left
              ·simp only [Act.put, List.setIfInBounds_toArray, List.set_cons_zero, List.set_cons_succ, i64_w, i32_w]
               rfl
              refine pure_ (i := 2) (N := some 92) (v := ?_) (a' := ?_) #[true, true, true, false, false, false] rfl rfl (by kernel_rfl) (fun _ _ _ h => h) (Or.inl ⟨by rfl, ?_⟩) ?_ ?_
              rotate_left
              ·intro w'
               go_simp
               with_reducible rfl
              rotate_left
              ·simp only [Act.put, List.setIfInBounds_toArray, List.set_cons_zero, List.set_cons_succ, i64_w, i32_w]
               rfl
              refine take_ (i := 3) (N := some 93) (v := ?_) (a' := ?_) #[true, true, true, true, false, false] rfl rfl (by kernel_rfl) (fun _ _ _ h => h) (Or.inl ⟨by rfl, ?_⟩) hHeld ?_ ?_
              rotate_left
              ·rintro w' ⟨s0, s1, s2, s3⟩
               go_simp
               with_reducible rfl
              rotate_left
              ·simp only [Act.put, List.setIfInBounds_toArray, List.set_cons_zero, List.set_cons_succ, i64_w, i32_w]
               rfl
              refine take_ (i := 4) (N := some 94) (v := ?_) (a' := ?_) #[true, true, true, true, true, false] rfl rfl (by kernel_rfl) (fun _ _ _ h => h) (Or.inl ⟨by rfl, ?_⟩) hHeld ?_ ?_
              rotate_left
              ·rintro w' ⟨s0, s1, s2, s3⟩
               go_simp
               with_reducible rfl
              rotate_left
              ·simp only [Act.put, List.setIfInBounds_toArray, List.set_cons_zero, List.set_cons_succ, i64_w, i32_w]
               rfl
              refine pure_ (i := 5) (N := some 95) (v := ?_) (a' := ?_) #[true, true, true, true, true, true] rfl rfl (by kernel_rfl) (fun _ _ _ h => h) (Or.inl ⟨by rfl, ?_⟩) ?_ ?_
              rotate_left
              ·intro w'
               go_simp
               with_reducible rfl
              rotate_left
              ·simp only [Act.put, List.setIfInBounds_toArray, List.set_cons_zero, List.set_cons_succ, i64_w, i32_w]
               rfl
              refine done_ (by kernel_rfl) ?_
              try go_wp2
              go_roundg kj34
              case measure => have := HJ5.out; have := HK2.out; have := HJ34.out; omega
              case rel => exact ⟨(wrap64 (x13_2 + 1)), (by first | rfl | (simp; done) | (simp [*]; done)), H', ⟨by have := HJ5.out; have := HK2.out; have := HJ34.out; omega⟩, ⟨by (with_reducible repeat (first | apply Kd.R_alloc | apply Kd.R_drewN | apply Kd.R_drew)); exact Kd.R_mono HO_11.out (fun _ hk => hk.1)⟩, ⟨by (with_reducible repeat (first | apply Kd.R_alloc | apply Kd.R_drewN | apply Kd.R_drew)); exact Kd.R_mono HO_12.out (fun _ hk => hk.1)⟩, ⟨by (with_reducible repeat (first | apply Kd.R_alloc | apply Kd.R_drewN | apply Kd.R_drew)); exact HO_308000.out⟩, ⟨by (with_reducible repeat (first | refine blk_drewN ?_ _ | refine blk_drew ?_ | refine blk_alloc ?_ _)); exact BK298.out⟩, ⟨by (with_reducible repeat (first | refine blk_drewN ?_ _ | refine blk_drew ?_ | refine blk_alloc ?_ _)); exact BK307.out⟩, ⟨by repeat (first | (with_reducible first | exact HB.out | apply below_alloc | apply pw_below_drewN | apply below_drew1 | refine below_set ?_ GE298.out | refine below_set ?_ GE307.out | refine below_set ?_ GE321.out) | exact HB.out)⟩⟩
            ·rw [if_neg c43] at H
             exact absurd H (by simp)
           ·rw [if_neg c42] at H
            exact absurd H (by simp)
          ·replace c41 := Bool.eq_false_iff.mpr c41
           subst c41
           have H1 : (if x13_2 < (t309.length : Int) then (if 0 ≤ x13_2 then (if x13_2 < (t312.length : Int) then (if (!(((rd_T32 t312 x13_2).f0) == ((rd_T32 t309 x13_2).f0)) || (!(((rd_T32 t312 x13_2).f1) == ((rd_T32 t309 x13_2).f1)))) = true then (some false) else (l08_ExtentPuts.l0 kj34 t299 (Int.tmod (wrap64 (a1_0)) 100) (wrap64 (1 + (Int.tmod (wrap64 (a1_1)) 5))) (wrap64 (1 + (Int.tmod (wrap64 (a1_2)) 20))) t309 t312 (wrap64 (x13_2 + 1)) t303 t306)) else (none)) else (none)) else (if 0 ≤ x13_2 then (if x13_2 < (t312.length : Int) then (if (!(((rd_T32 t312 x13_2).f0) == 0) || (!(((rd_T32 t312 x13_2).f1) == 0))) = true then (some false) else (l08_ExtentPuts.l0 kj34 t299 (Int.tmod (wrap64 (a1_0)) 100) (wrap64 (1 + (Int.tmod (wrap64 (a1_1)) 5))) (wrap64 (1 + (Int.tmod (wrap64 (a1_2)) 20))) t309 t312 (wrap64 (x13_2 + 1)) t303 t306)) else (none)) else (none))) = some r := by rw [if_neg (show ¬ (false = true) by decide)] at H; exact H
           clear H
           have H := H1
           clear H1
           by_cases c50 : x13_2 < (t309.length : Int)
           ·rw [if_pos c50] at H
            have c50b0 : decide (x13_2 < (t309.length : Int)) = true := decide_eq_true c50
            clear c50
            by_cases c51 : 0 ≤ x13_2
            ·rw [if_pos c51] at H
             have c51b0 : decide (0 ≤ x13_2) = true := decide_eq_true c51
             clear c51
             by_cases c52 : x13_2 < (t312.length : Int)
             ·rw [if_pos c52] at H
              have c52b0 : decide (x13_2 < (t312.length : Int)) = true := decide_eq_true c52
              clear c52
              by_cases c53 : (!(((rd_T32 t312 x13_2).f0) == ((rd_T32 t309 x13_2).f0)) || (!(((rd_T32 t312 x13_2).f1) == ((rd_T32 t309 x13_2).f1)))) = true
              ·rw [if_pos c53] at H
               have c53b0 : (!(((rd_T32 t312 x13_2).f0) == ((rd_T32 t309 x13_2).f0)) || (!(((rd_T32 t312 x13_2).f1) == ((rd_T32 t309 x13_2).f1)))) = true := c53
               clear c53
               exact absurd ((Option.some.inj H).trans HLAW.out) (by decide)
              ·rw [if_neg c53] at H
               have c53b0 : (!(((rd_T32 t312 x13_2).f0) == ((rd_T32 t309 x13_2).f0)) || (!(((rd_T32 t312 x13_2).f1) == ((rd_T32 t309 x13_2).f1)))) = false := by simpa using c53
               clear c53
               have H' := Aside0.mk H
               clear H
               have p323 : 0 ≤ (x13_2 : Int) := of_decide_eq_true (by first | (with_reducible assumption) | assumption)
               have q323 : x13_2 < (t309.length : Int) := of_decide_eq_true (by first | (with_reducible assumption) | assumption)
               obtain ⟨ad323, e323, hx323_0, hx323_1⟩ := at_T32 (Kd.R_reads' HO_11.out).2.2 x13_2 p323 q323
               cases e323
               replace p323 := eq_true p323
               replace q323 := eq_true q323
               have hnb54 := NB321_298.out
               have hnc54 := NB298_321.out
               have hnb55 := NB321_307.out
               have hnc55 := NB307_321.out
               have hcz56_0 : wc.cell? ⟨gb321, 0, none⟩ = some (.int .i64 0) := (blk_cell BK321.out 0).trans rfl
               have hcz56_1 : wc.cell? ⟨gb321, 1, none⟩ = some (.int .i64 0) := (blk_cell BK321.out 1).trans rfl
               have hfz56_0 := blk_frozen BK321.out 0
               have hfz56_1 := blk_frozen BK321.out 1
               try go_wp2
               have n0_ : Aside0 (Kd.R k32 32 ((wc.setCell ⟨gb321, 0, none⟩ (.int .i64 ((rd_T32 t309 x13_2).f0))).setCell ⟨gb321, 1, none⟩ (.int .i64 ((rd_T32 t309 x13_2).f1))) w.heap.size (fun k_ => some k_ ≠ (.slice Ao32 t312.length co32 : Value).ownBlock ∧ k_ ≠ gb321) (.slice (some ad323) t309.length co33) t309) := ⟨by (with_reducible repeat (first | apply Kd.R_alloc | apply Kd.R_drewN | apply Kd.R_drew)); exact Kd.R_mono (Kd.R_far (p := ⟨gb321, 1, none⟩) (Kd.R_far (p := ⟨gb321, 0, none⟩) (Kd.R_mono HO_11.out (fun k_ hk => (⟨hk, hk.2⟩ : _ ∧ k_ ≠ gb321))) (fun _ hk => hk.2) (.int .i64 ((rd_T32 t309 x13_2).f0))) (fun _ hk => hk.2) (.int .i64 ((rd_T32 t309 x13_2).f1))) (fun _ hk => ⟨hk.1.1, hk.1.2⟩)⟩
               have n1_ : Aside0 (Kd.R k32 32 ((wc.setCell ⟨gb321, 0, none⟩ (.int .i64 ((rd_T32 t309 x13_2).f0))).setCell ⟨gb321, 1, none⟩ (.int .i64 ((rd_T32 t309 x13_2).f1))) w.heap.size (fun k_ => some k_ ≠ (.slice (some ad323) t309.length co33 : Value).ownBlock ∧ k_ ≠ gb321) (.slice Ao32 t312.length co32) t312) := ⟨by (with_reducible repeat (first | apply Kd.R_alloc | apply Kd.R_drewN | apply Kd.R_drew)); exact Kd.R_mono (Kd.R_far (p := ⟨gb321, 1, none⟩) (Kd.R_far (p := ⟨gb321, 0, none⟩) (Kd.R_mono HO_12.out (fun k_ hk => (⟨hk, hk.2⟩ : _ ∧ k_ ≠ gb321))) (fun _ hk => hk.2) (.int .i64 ((rd_T32 t309 x13_2).f0))) (fun _ hk => hk.2) (.int .i64 ((rd_T32 t309 x13_2).f1))) (fun _ hk => ⟨hk.1.1, hk.1.2⟩)⟩
               have n2_ : Aside0 (Kd.R k58 58 ((wc.setCell ⟨gb321, 0, none⟩ (.int .i64 ((rd_T32 t309 x13_2).f0))).setCell ⟨gb321, 1, none⟩ (.int .i64 ((rd_T32 t309 x13_2).f1))) w.heap.size (fun _ => True) (.slice Ao14 t303.length co14) t303) := ⟨by (with_reducible repeat (first | apply Kd.R_alloc | apply Kd.R_drewN | apply Kd.R_drew)); exact Kd.R_mono (Kd.R_far (p := ⟨gb321, 1, none⟩) (Kd.R_far (p := ⟨gb321, 0, none⟩) (Kd.R_types HO_308000.out BK321.out (by decide)) (fun _ hk => hk.2) (.int .i64 ((rd_T32 t309 x13_2).f0))) (fun _ hk => hk.2) (.int .i64 ((rd_T32 t309 x13_2).f1))) (fun _ hk => trivial)⟩
               have n3_ : Aside0 (((wc.setCell ⟨gb321, 0, none⟩ (.int .i64 ((rd_T32 t309 x13_2).f0))).setCell ⟨gb321, 1, none⟩ (.int .i64 ((rd_T32 t309 x13_2).f1))).heap[gb298]? = some (.cells #[.int .u8 a1_0, .int .u8 a1_1, .int .u8 a1_2] 37 (0, 0))) := ⟨by (with_reducible repeat (first | refine blk_drewN ?_ _ | refine blk_drew ?_ | refine blk_alloc ?_ _)); refine blk_far ?_ NB298_321.out _; (with_reducible repeat (first | refine blk_drewN ?_ _ | refine blk_drew ?_ | refine blk_alloc ?_ _)); refine blk_far ?_ NB298_321.out _; (with_reducible repeat (first | refine blk_drewN ?_ _ | refine blk_drew ?_ | refine blk_alloc ?_ _)); exact BK298.out⟩
               have n4_ : Aside0 (((wc.setCell ⟨gb321, 0, none⟩ (.int .i64 ((rd_T32 t309 x13_2).f0))).setCell ⟨gb321, 1, none⟩ (.int .i64 ((rd_T32 t309 x13_2).f1))).heap[gb307]? = some (.cells #[.slice Ao14 t303.length co14, .int .i64 t306] 40 (0, 0))) := ⟨by (with_reducible repeat (first | refine blk_drewN ?_ _ | refine blk_drew ?_ | refine blk_alloc ?_ _)); refine blk_far ?_ NB307_321.out _; (with_reducible repeat (first | refine blk_drewN ?_ _ | refine blk_drew ?_ | refine blk_alloc ?_ _)); refine blk_far ?_ NB307_321.out _; (with_reducible repeat (first | refine blk_drewN ?_ _ | refine blk_drew ?_ | refine blk_alloc ?_ _)); exact BK307.out⟩
               have n5_ : Aside0 (((wc.setCell ⟨gb321, 0, none⟩ (.int .i64 ((rd_T32 t309 x13_2).f0))).setCell ⟨gb321, 1, none⟩ (.int .i64 ((rd_T32 t309 x13_2).f1))).heap[gb321]? = some (.cells #[.int .i64 ((rd_T32 t309 x13_2).f0), .int .i64 ((rd_T32 t309 x13_2).f1)] 32 (0, 0))) := ⟨by (with_reducible repeat (first | refine blk_drewN ?_ _ | refine blk_drew ?_ | refine blk_alloc ?_ _)); refine blk_put (cs := #[.int .i64 ((rd_T32 t309 x13_2).f0), .int .i64 0]) ?_ 1 _ rfl; (with_reducible repeat (first | refine blk_drewN ?_ _ | refine blk_drew ?_ | refine blk_alloc ?_ _)); refine blk_put (cs := #[.int .i64 0, .int .i64 0]) ?_ 0 _ rfl; (with_reducible repeat (first | refine blk_drewN ?_ _ | refine blk_drew ?_ | refine blk_alloc ?_ _)); exact BK321.out⟩
               have n6_ : Aside0 (Below w.heap.size w ((wc.setCell ⟨gb321, 0, none⟩ (.int .i64 ((rd_T32 t309 x13_2).f0))).setCell ⟨gb321, 1, none⟩ (.int .i64 ((rd_T32 t309 x13_2).f1)))) := ⟨by repeat (first | (with_reducible first | exact HB.out | apply below_alloc | apply pw_below_drewN | apply below_drew1 | refine below_set ?_ GE298.out | refine below_set ?_ GE307.out | refine below_set ?_ GE321.out) | exact HB.out)⟩
               (try clear HO_11)
               (try clear HO_12)
               (try clear HO_308000)
               (try clear BK298)
               (try clear BK307)
               (try clear BK321)
               (try clear HB)
               generalize ((wc.setCell ⟨gb321, 0, none⟩ (.int .i64 ((rd_T32 t309 x13_2).f0))).setCell ⟨gb321, 1, none⟩ (.int .i64 ((rd_T32 t309 x13_2).f1))) = w57 at n0_ n1_ n2_ n3_ n4_ n5_ n6_ ⊢
               have HO_11 := n0_
               have HO_12 := n1_
               have HO_308000 := n2_
               have BK298 := n3_
               have BK307 := n4_
               have BK321 := n5_
               have HB := n6_
               clear n0_ n1_ n2_ n3_ n4_ n5_ n6_
               have n0_ := Aside0.mk (Kd.R_drew HO_11.out)
               have n1_ := Aside0.mk (Kd.R_drew HO_12.out)
               have n2_ := Aside0.mk (Kd.R_drew HO_308000.out)
               have n3_ := Aside0.mk (blk_drew BK298.out)
               have n4_ := Aside0.mk (blk_drew BK307.out)
               have n5_ := Aside0.mk (blk_drew BK321.out)
               have n6_ := Aside0.mk (below_drew1 HB.out)
               clear HO_11
               clear HO_12
               clear HO_308000
               clear BK298
               clear BK307
               clear BK321
               clear HB
               have HO_11 := n0_
               have HO_12 := n1_
               have HO_308000 := n2_
               have BK298 := n3_
               have BK307 := n4_
               have BK321 := n5_
               have HB := n6_
               clear n0_ n1_ n2_ n3_ n4_ n5_ n6_
               have p324 : 0 ≤ (x13_2 : Int) := of_decide_eq_true (by first | (with_reducible assumption) | assumption)
               have q324 : x13_2 < (t312.length : Int) := of_decide_eq_true (by first | (with_reducible assumption) | assumption)
               obtain ⟨ad324, e324, hx324_0, hx324_1⟩ := at_T32 (Kd.R_reads' HO_12.out).2.2 x13_2 p324 q324
               cases e324
               replace p324 := eq_true p324
               replace q324 := eq_true q324
               refine start_ (n := 6) (S := fun w' => w'.cell? ⟨gb321, 0, none⟩ = some (.int .i64 ((rd_T32 t309 x13_2).f0)) ∧ w'.cell? ⟨gb321, 1, none⟩ = some (.int .i64 ((rd_T32 t309 x13_2).f1)) ∧ w'.cell? (ad324.add ((x13_2).toNat * 2)) = some (.int .i64 ((rd_T32 t312 x13_2).f0)) ∧ w'.cell? ⟨(ad324.add ((x13_2).toNat * 2)).block, (ad324.add ((x13_2).toNat * 2)).off + 1, none⟩ = some (.int .i64 ((rd_T32 t312 x13_2).f1))) (ds := []) #[false, false, false, false, false, false] (by kernel_rfl) rfl rfl ⟨(blk_cell BK321.out 0).trans rfl, (blk_cell BK321.out 1).trans rfl, hx324_0, hx324_1⟩ (fun hHeld => ?_)
               generalize w57.drew = w58 at HO_11 HO_12 HO_308000 BK298 BK307 BK321 HB hx324_0 hx324_1 hHeld ⊢
               refine pure_ (i := 0) (N := some 90) (v := ?_) (a' := ?_) #[true, false, false, false, false, false] rfl rfl (by kernel_rfl) (fun _ _ _ h => h) (Or.inl ⟨by rfl, ?_⟩) ?_ ?_
               rotate_left
               ·intro w'
                go_simp
                with_reducible rfl
               rotate_left
               ·simp only [Act.put, List.setIfInBounds_toArray, List.set_cons_zero, List.set_cons_succ, i64_w, i32_w]
                rfl
               refine pure_ (i := 1) (N := some 91) (v := ?_) (a' := ?_) #[true, true, false, false, false, false] rfl rfl (by kernel_rfl) (fun _ _ _ h => h) (Or.inl ⟨by rfl, ?_⟩) ?_ ?_
               rotate_left
               ·intro w'
                go_simp
                with_reducible rfl
               rotate_left
               ·simp only [Act.put, List.setIfInBounds_toArray, List.set_cons_zero, List.set_cons_succ, i64_w, i32_w]
                rfl
               refine pure_ (i := 2) (N := some 92) (v := ?_) (a' := ?_) #[true, true, true, false, false, false] rfl rfl (by kernel_rfl) (fun _ _ _ h => h) (Or.inl ⟨by rfl, ?_⟩) ?_ ?_
               rotate_left
               ·intro w'
                go_simp
                with_reducible rfl
               rotate_left
               ·simp only [Act.put, List.setIfInBounds_toArray, List.set_cons_zero, List.set_cons_succ, i64_w, i32_w]
                rfl
               refine take_ (i := 3) (N := some 93) (v := ?_) (a' := ?_) #[true, true, true, true, false, false] rfl rfl (by kernel_rfl) (fun _ _ _ h => h) (Or.inl ⟨by rfl, ?_⟩) hHeld ?_ ?_
               rotate_left
               ·rintro w' ⟨s0, s1, s2, s3⟩
                go_simp
                with_reducible rfl
               rotate_left
               ·simp only [Act.put, List.setIfInBounds_toArray, List.set_cons_zero, List.set_cons_succ, i64_w, i32_w]
                rfl
               refine take_ (i := 4) (N := some 94) (v := ?_) (a' := ?_) #[true, true, true, true, true, false] rfl rfl (by kernel_rfl) (fun _ _ _ h => h) (Or.inl ⟨by rfl, ?_⟩) hHeld ?_ ?_
               rotate_left
               ·rintro w' ⟨s0, s1, s2, s3⟩
                go_simp
                with_reducible rfl
               rotate_left
               ·simp only [Act.put, List.setIfInBounds_toArray, List.set_cons_zero, List.set_cons_succ, i64_w, i32_w]
                rfl
               refine pure_ (i := 5) (N := some 95) (v := ?_) (a' := ?_) #[true, true, true, true, true, true] rfl rfl (by kernel_rfl) (fun _ _ _ h => h) (Or.inl ⟨by rfl, ?_⟩) ?_ ?_
               rotate_left
               ·intro w'
                go_simp
                with_reducible rfl
               rotate_left
               ·simp only [Act.put, List.setIfInBounds_toArray, List.set_cons_zero, List.set_cons_succ, i64_w, i32_w]
                rfl
               refine done_ (by kernel_rfl) ?_
               try go_wp2
               go_roundg kj34
               case measure => have := HJ5.out; have := HK2.out; have := HJ34.out; omega
               case rel => exact ⟨(wrap64 (x13_2 + 1)), (by first | rfl | (simp; done) | (simp [*]; done)), H', ⟨by have := HJ5.out; have := HK2.out; have := HJ34.out; omega⟩, ⟨by (with_reducible repeat (first | apply Kd.R_alloc | apply Kd.R_drewN | apply Kd.R_drew)); exact Kd.R_mono HO_11.out (fun _ hk => hk.1)⟩, ⟨by (with_reducible repeat (first | apply Kd.R_alloc | apply Kd.R_drewN | apply Kd.R_drew)); exact Kd.R_mono HO_12.out (fun _ hk => hk.1)⟩, ⟨by (with_reducible repeat (first | apply Kd.R_alloc | apply Kd.R_drewN | apply Kd.R_drew)); exact HO_308000.out⟩, ⟨by (with_reducible repeat (first | refine blk_drewN ?_ _ | refine blk_drew ?_ | refine blk_alloc ?_ _)); exact BK298.out⟩, ⟨by (with_reducible repeat (first | refine blk_drewN ?_ _ | refine blk_drew ?_ | refine blk_alloc ?_ _)); exact BK307.out⟩, ⟨by repeat (first | (with_reducible first | exact HB.out | apply below_alloc | apply pw_below_drewN | apply below_drew1 | refine below_set ?_ GE298.out | refine below_set ?_ GE307.out | refine below_set ?_ GE321.out) | exact HB.out)⟩⟩
             ·rw [if_neg c52] at H
              exact absurd H (by simp)
            ·rw [if_neg c51] at H
             exact absurd H (by simp)
           ·rw [if_neg c50] at H
            have c50b0 : decide (x13_2 < (t309.length : Int)) = false := decide_eq_false c50
            clear c50
            by_cases c59 : 0 ≤ x13_2
            ·rw [if_pos c59] at H
             have c59b0 : decide (0 ≤ x13_2) = true := decide_eq_true c59
             clear c59
             by_cases c60 : x13_2 < (t312.length : Int)
             ·rw [if_pos c60] at H
              have c60b0 : decide (x13_2 < (t312.length : Int)) = true := decide_eq_true c60
              clear c60
              by_cases c61 : (!(((rd_T32 t312 x13_2).f0) == 0) || (!(((rd_T32 t312 x13_2).f1) == 0))) = true
              ·rw [if_pos c61] at H
               have c61b0 : (!(((rd_T32 t312 x13_2).f0) == 0) || (!(((rd_T32 t312 x13_2).f1) == 0))) = true := c61
               clear c61
               exact absurd ((Option.some.inj H).trans HLAW.out) (by decide)
              ·rw [if_neg c61] at H
               have c61b0 : (!(((rd_T32 t312 x13_2).f0) == 0) || (!(((rd_T32 t312 x13_2).f1) == 0))) = false := by simpa using c61
               clear c61
               have H' := Aside0.mk H
               clear H
               try go_wp2
               have n0_ := Aside0.mk (Kd.R_drew HO_11.out)
               have n1_ := Aside0.mk (Kd.R_drew HO_12.out)
               have n2_ := Aside0.mk (Kd.R_drew HO_308000.out)
               have n3_ := Aside0.mk (blk_drew BK298.out)
               have n4_ := Aside0.mk (blk_drew BK307.out)
               have n5_ := Aside0.mk (blk_drew BK321.out)
               have n6_ := Aside0.mk (below_drew1 HB.out)
               clear HO_11
               clear HO_12
               clear HO_308000
               clear BK298
               clear BK307
               clear BK321
               clear HB
               have HO_11 := n0_
               have HO_12 := n1_
               have HO_308000 := n2_
               have BK298 := n3_
               have BK307 := n4_
               have BK321 := n5_
               have HB := n6_
               clear n0_ n1_ n2_ n3_ n4_ n5_ n6_
               have p325 : 0 ≤ (x13_2 : Int) := of_decide_eq_true (by first | (with_reducible assumption) | assumption)
               have q325 : x13_2 < (t312.length : Int) := of_decide_eq_true (by first | (with_reducible assumption) | assumption)
               obtain ⟨ad325, e325, hx325_0, hx325_1⟩ := at_T32 (Kd.R_reads' HO_12.out).2.2 x13_2 p325 q325
               cases e325
               replace p325 := eq_true p325
               replace q325 := eq_true q325
               refine start_ (n := 6) (S := fun w' => w'.cell? ⟨gb321, 0, none⟩ = some (.int .i64 0) ∧ w'.cell? ⟨gb321, 1, none⟩ = some (.int .i64 0) ∧ w'.cell? (ad325.add ((x13_2).toNat * 2)) = some (.int .i64 ((rd_T32 t312 x13_2).f0)) ∧ w'.cell? ⟨(ad325.add ((x13_2).toNat * 2)).block, (ad325.add ((x13_2).toNat * 2)).off + 1, none⟩ = some (.int .i64 ((rd_T32 t312 x13_2).f1))) (ds := []) #[false, false, false, false, false, false] (by kernel_rfl) rfl rfl ⟨(blk_cell BK321.out 0).trans rfl, (blk_cell BK321.out 1).trans rfl, hx325_0, hx325_1⟩ (fun hHeld => ?_)
               generalize wc.drew = w62 at HO_11 HO_12 HO_308000 BK298 BK307 BK321 HB hx325_0 hx325_1 hHeld ⊢
               refine pure_ (i := 0) (N := some 90) (v := ?_) (a' := ?_) #[true, false, false, false, false, false] rfl rfl (by kernel_rfl) (fun _ _ _ h => h) (Or.inl ⟨by rfl, ?_⟩) ?_ ?_
               rotate_left
               ·intro w'
                go_simp
                with_reducible rfl
               rotate_left
               ·simp only [Act.put, List.setIfInBounds_toArray, List.set_cons_zero, List.set_cons_succ, i64_w, i32_w]
                rfl
               refine pure_ (i := 1) (N := some 91) (v := ?_) (a' := ?_) #[true, true, false, false, false, false] rfl rfl (by kernel_rfl) (fun _ _ _ h => h) (Or.inl ⟨by rfl, ?_⟩) ?_ ?_
               rotate_left
               ·intro w'
                go_simp
                with_reducible rfl
               rotate_left
               ·simp only [Act.put, List.setIfInBounds_toArray, List.set_cons_zero, List.set_cons_succ, i64_w, i32_w]
                rfl
               refine pure_ (i := 2) (N := some 92) (v := ?_) (a' := ?_) #[true, true, true, false, false, false] rfl rfl (by kernel_rfl) (fun _ _ _ h => h) (Or.inl ⟨by rfl, ?_⟩) ?_ ?_
               rotate_left
               ·intro w'
                go_simp
                with_reducible rfl
               rotate_left
               ·simp only [Act.put, List.setIfInBounds_toArray, List.set_cons_zero, List.set_cons_succ, i64_w, i32_w]
                rfl
               refine take_ (i := 3) (N := some 93) (v := ?_) (a' := ?_) #[true, true, true, true, false, false] rfl rfl (by kernel_rfl) (fun _ _ _ h => h) (Or.inl ⟨by rfl, ?_⟩) hHeld ?_ ?_
               rotate_left
               ·rintro w' ⟨s0, s1, s2, s3⟩
                go_simp
                with_reducible rfl
               rotate_left
               ·simp only [Act.put, List.setIfInBounds_toArray, List.set_cons_zero, List.set_cons_succ, i64_w, i32_w]
                rfl
               refine take_ (i := 4) (N := some 94) (v := ?_) (a' := ?_) #[true, true, true, true, true, false] rfl rfl (by kernel_rfl) (fun _ _ _ h => h) (Or.inl ⟨by rfl, ?_⟩) hHeld ?_ ?_
               rotate_left
               ·rintro w' ⟨s0, s1, s2, s3⟩
                go_simp
                with_reducible rfl
               rotate_left
               ·simp only [Act.put, List.setIfInBounds_toArray, List.set_cons_zero, List.set_cons_succ, i64_w, i32_w]
                rfl
               refine pure_ (i := 5) (N := some 95) (v := ?_) (a' := ?_) #[true, true, true, true, true, true] rfl rfl (by kernel_rfl) (fun _ _ _ h => h) (Or.inl ⟨by rfl, ?_⟩) ?_ ?_
               rotate_left
               ·intro w'
                go_simp
                with_reducible rfl
               rotate_left
               ·simp only [Act.put, List.setIfInBounds_toArray, List.set_cons_zero, List.set_cons_succ, i64_w, i32_w]
                rfl
               refine done_ (by kernel_rfl) ?_
               try go_wp2
               go_roundg kj34
               case measure => have := HJ5.out; have := HK2.out; have := HJ34.out; omega
               case rel => exact ⟨(wrap64 (x13_2 + 1)), (by first | rfl | (simp; done) | (simp [*]; done)), H', ⟨by have := HJ5.out; have := HK2.out; have := HJ34.out; omega⟩, ⟨by (with_reducible repeat (first | apply Kd.R_alloc | apply Kd.R_drewN | apply Kd.R_drew)); exact Kd.R_mono HO_11.out (fun _ hk => hk.1)⟩, ⟨by (with_reducible repeat (first | apply Kd.R_alloc | apply Kd.R_drewN | apply Kd.R_drew)); exact Kd.R_mono HO_12.out (fun _ hk => hk.1)⟩, ⟨by (with_reducible repeat (first | apply Kd.R_alloc | apply Kd.R_drewN | apply Kd.R_drew)); exact HO_308000.out⟩, ⟨by (with_reducible repeat (first | refine blk_drewN ?_ _ | refine blk_drew ?_ | refine blk_alloc ?_ _)); exact BK298.out⟩, ⟨by (with_reducible repeat (first | refine blk_drewN ?_ _ | refine blk_drew ?_ | refine blk_alloc ?_ _)); exact BK307.out⟩, ⟨by repeat (first | (with_reducible first | exact HB.out | apply below_alloc | apply pw_below_drewN | apply below_drew1 | refine below_set ?_ GE298.out | refine below_set ?_ GE307.out | refine below_set ?_ GE321.out) | exact HB.out)⟩⟩
             ·rw [if_neg c60] at H
              exact absurd H (by simp)
            ·rw [if_neg c59] at H
             exact absurd H (by simp)
       ·rw [if_neg c34] at H
        have c34b0 : decide (x13_2 < (t312.length : Int)) = false := decide_eq_false c34
        clear c34
        replace H := Option.bind_eq_some_iff.mp H
        obtain ⟨⟨t315, t318⟩, A630, H⟩ := H
        replace H : ((l08_same.f k2 t315 t318 t303 t306).bind fun t320 => (if t320 = true then (some t299) else (some false))) = some r := H
        have A63 := Aside0.mk A630
        clear A630
        replace H := Option.bind_eq_some_iff.mp H
        obtain ⟨t320, A640, H⟩ := H
        replace H : (if t320 = true then (some t299) else (some false)) = some r := H
        have A64 := Aside0.mk A640
        clear A640
        by_cases c65 : t320 = true
        ·subst c65
         have H1 : (some t299) = some r := by rw [if_pos rfl] at H; exact H
         clear H
         have H := H1
         clear H1
         clear HLAW
         obtain rfl := Option.some.inj H
         have hnb66 := NB307_298.out
         have hnc66 := NB298_307.out
         have hcz67_0 : wr.cell? ⟨gb307, 0, none⟩ = some (.slice Ao14 t303.length co14) := (blk_cell BK307.out 0).trans rfl
         have hcz67_1 : wr.cell? ⟨gb307, 1, none⟩ = some (.int .i64 t306) := (blk_cell BK307.out 1).trans rfl
         have hfz67_0 := blk_frozen BK307.out 0
         have hfz67_1 := blk_frozen BK307.out 1
         go_wp2_with (first | ((with_reducible refine gate_callee (f := 20) rfl ?_); refine goesL_ (some 101) rfl rfl Try.func20 (by kernel_rfl) rfl #[.slice Ao14 t303.length co14, .int .i64 (Int.tmod (wrap64 (a1_0)) 100), .int .i64 (wrap64 (1 + (Int.tmod (wrap64 (a1_1)) 5))), .int .i64 (wrap64 (1 + (Int.tmod (wrap64 (a1_2)) 20)))] rfl (by (try simp only [List.map_toArray, List.map_cons, List.map_nil]); first | done | rfl | (simp only [List.length_drop, List.length_take]; rfl)) ?_; (with_reducible refine (l08_put.calls _ _ t303 (Int.tmod (wrap64 (a1_0)) 100) (wrap64 (1 + (Int.tmod (wrap64 (a1_1)) 5))) (wrap64 (1 + (Int.tmod (wrap64 (a1_2)) 20))) t315 t318 _ ?side1 ?side2 A63.out).mono ?_); (case side1 => repeat (first | exact (Kd.R_reads' HO_308000.out).2.2 | (with_reducible refine Kd.C_alloc ?_ _) | (with_reducible refine Kd.C_drewN ?_ _) | (with_reducible refine Kd.C_drew ?_))); (case side2 => exact (Kd.R_reads' HO_308000.out).2.1); rintro e w68 ⟨v316, rfl, ho0, hb⟩; refine ⟨_, rfl, ?_⟩; have n0_ := Aside0.mk (Kd.R_below (by (with_reducible repeat (first | apply Kd.R_alloc | apply Kd.R_drewN | apply Kd.R_drew)); exact HO_11.out) hb); have n1_ := Aside0.mk (Kd.R_below (by (with_reducible repeat (first | apply Kd.R_alloc | apply Kd.R_drewN | apply Kd.R_drew)); exact HO_12.out) hb); have n2_ := Aside0.mk (Kd.R_elder' (by (with_reducible repeat (first | apply Kd.R_alloc | apply Kd.R_drewN | apply Kd.R_drew)); exact HO_308000.out) (Kd.R_base ho0) hb); have n3_ := Aside0.mk (Kd.R_lower (Kd.R_new' ho0 (Kd.R_lt (by (with_reducible repeat (first | apply Kd.R_alloc | apply Kd.R_drewN | apply Kd.R_drew)); exact HO_308000.out))) (below_size (by repeat (first | (with_reducible first | exact HB.out | apply below_alloc | apply pw_below_drewN | apply below_drew1 | refine below_set ?_ GE298.out | refine below_set ?_ GE307.out) | exact HB.out)))); have n4_ := Aside0.mk (blk_below (g := gb298) (o := .cells #[.int .u8 a1_0, .int .u8 a1_1, .int .u8 a1_2] 37 (0, 0)) (by (with_reducible repeat (first | refine blk_drewN ?_ _ | refine blk_drew ?_ | refine blk_alloc ?_ _)); exact BK298.out) hb); have n5_ := Aside0.mk (blk_below (g := gb307) (o := .cells #[.slice Ao14 t303.length co14, .int .i64 t306] 40 (0, 0)) (by (with_reducible repeat (first | refine blk_drewN ?_ _ | refine blk_drew ?_ | refine blk_alloc ?_ _)); exact BK307.out) hb); have n6_ := Aside0.mk (below_step (by repeat (first | (with_reducible first | exact HB.out | apply below_alloc | apply pw_below_drewN | apply below_drew1 | refine below_set ?_ GE298.out | refine below_set ?_ GE307.out) | exact HB.out)) hb); clear HO_11; clear HO_12; clear HO_308000; clear BK298; clear BK307; clear HB; have HO_11 := n0_; have HO_12 := n1_; have HO_308000 := n2_; have HO317 := n3_; have BK298 := n4_; have BK307 := n5_; have HB := n6_; clear n0_ n1_ n2_ n3_ n4_ n5_ n6_; (try clear hb); (try clear hb2); (try clear hk); (try clear hi); (try clear ho0)) | ((with_reducible refine gate_dst (N := 15) rfl ?_); refine box_event ?hg (N := 15) ?hd (cs := #[.slice none 0 0, .int .i64 0]) (t := 40) ?hr ?_; (case hd => rfl); (case hg => rfl); (case hr => first | (go_simp; done) | (go_simp; rfl)); intro gb319 hg w69 hbox hb; have n0_ := Aside0.mk (Kd.R_below (by (with_reducible repeat (first | apply Kd.R_alloc | apply Kd.R_drewN | apply Kd.R_drew)); exact HO_11.out) hb); have n1_ := Aside0.mk (Kd.R_below (by (with_reducible repeat (first | apply Kd.R_alloc | apply Kd.R_drewN | apply Kd.R_drew)); exact HO_12.out) hb); have n2_ := Aside0.mk (Kd.R_below (by (with_reducible repeat (first | apply Kd.R_alloc | apply Kd.R_drewN | apply Kd.R_drew)); exact HO_308000.out) hb); have n3_ := Aside0.mk (Kd.R_below (by (with_reducible repeat (first | apply Kd.R_alloc | apply Kd.R_drewN | apply Kd.R_drew)); exact HO317.out) hb); have n4_ := Aside0.mk (blk_below (g := gb298) (o := .cells #[.int .u8 a1_0, .int .u8 a1_1, .int .u8 a1_2] 37 (0, 0)) (by (with_reducible repeat (first | refine blk_drewN ?_ _ | refine blk_drew ?_ | refine blk_alloc ?_ _)); exact BK298.out) hb); have n5_ := Aside0.mk (blk_below (g := gb307) (o := .cells #[.slice Ao14 t303.length co14, .int .i64 t306] 40 (0, 0)) (by (with_reducible repeat (first | refine blk_drewN ?_ _ | refine blk_drew ?_ | refine blk_alloc ?_ _)); exact BK307.out) hb); have n6_ := Aside0.mk (below_step (by repeat (first | (with_reducible first | exact HB.out | apply below_alloc | apply pw_below_drewN | apply below_drew1 | refine below_set ?_ GE298.out | refine below_set ?_ GE307.out) | exact HB.out)) hb); have n7_ := Aside0.mk (hbox); have n8_ := Aside0.mk ((by rw [hg]; exact (below_size (by repeat (first | (with_reducible first | exact HB.out | apply below_alloc | apply pw_below_drewN | apply below_drew1 | refine below_set ?_ GE298.out | refine below_set ?_ GE307.out) | exact HB.out))) : w.heap.size ≤ gb319)); have n9_ := Aside0.mk ((by rw [hg]; exact (below_size (by repeat (first | (with_reducible first | exact HB.out | apply below_alloc | apply pw_below_drewN | apply below_drew1 | refine below_set ?_ GE298.out | refine below_set ?_ GE307.out) | exact HB.out))) : w.heap.size ≤ gb319)); have n10_ := Aside0.mk ((by rw [hg]; exact Nat.ne_of_lt (blk_lt (g := gb298) (o := .cells #[.int .u8 a1_0, .int .u8 a1_1, .int .u8 a1_2] 37 (0, 0)) (by (with_reducible repeat (first | refine blk_drewN ?_ _ | refine blk_drew ?_ | refine blk_alloc ?_ _)); exact BK298.out)) : gb298 ≠ gb319)); have n11_ := Aside0.mk ((by rw [hg]; exact Nat.ne_of_gt (blk_lt (g := gb298) (o := .cells #[.int .u8 a1_0, .int .u8 a1_1, .int .u8 a1_2] 37 (0, 0)) (by (with_reducible repeat (first | refine blk_drewN ?_ _ | refine blk_drew ?_ | refine blk_alloc ?_ _)); exact BK298.out)) : gb319 ≠ gb298)); have n12_ := Aside0.mk ((by rw [hg]; exact Nat.ne_of_lt (blk_lt (g := gb307) (o := .cells #[.slice Ao14 t303.length co14, .int .i64 t306] 40 (0, 0)) (by (with_reducible repeat (first | refine blk_drewN ?_ _ | refine blk_drew ?_ | refine blk_alloc ?_ _)); exact BK307.out)) : gb307 ≠ gb319)); have n13_ := Aside0.mk ((by rw [hg]; exact Nat.ne_of_gt (blk_lt (g := gb307) (o := .cells #[.slice Ao14 t303.length co14, .int .i64 t306] 40 (0, 0)) (by (with_reducible repeat (first | refine blk_drewN ?_ _ | refine blk_drew ?_ | refine blk_alloc ?_ _)); exact BK307.out)) : gb319 ≠ gb307)); clear HO_11; clear HO_12; clear HO_308000; clear HO317; clear BK298; clear BK307; clear HB; have HO_11 := n0_; have HO_12 := n1_; have HO_308000 := n2_; have HO317 := n3_; have BK298 := n4_; have BK307 := n5_; have HB := n6_; have BK319 := n7_; have GW319 := n8_; have GE319 := n9_; have NB298_319 := n10_; have NB319_298 := n11_; have NB307_319 := n12_; have NB319_307 := n13_; clear n0_ n1_ n2_ n3_ n4_ n5_ n6_ n7_ n8_ n9_ n10_ n11_ n12_ n13_; clear hb hbox hg; obtain ⟨Ao70, co70, eo70⟩ := Kd.R_slice HO317.out; subst eo70; have hnb71 := NB319_298.out; have hnc71 := NB298_319.out; have hnb72 := NB319_307.out; have hnc72 := NB307_319.out; have hcz73_0 : w69.cell? ⟨gb319, 0, none⟩ = some (.slice none 0 0) := (blk_cell BK319.out 0).trans rfl; have hcz73_1 : w69.cell? ⟨gb319, 1, none⟩ = some (.int .i64 0) := (blk_cell BK319.out 1).trans rfl; have hfz73_0 := blk_frozen BK319.out 0; have hfz73_1 := blk_frozen BK319.out 1; have hcz74_0 : w69.cell? ⟨gb307, 0, none⟩ = some (.slice Ao14 t303.length co14) := (blk_cell BK307.out 0).trans rfl; have hcz74_1 : w69.cell? ⟨gb307, 1, none⟩ = some (.int .i64 t306) := (blk_cell BK307.out 1).trans rfl; have hfz74_0 := blk_frozen BK307.out 0; have hfz74_1 := blk_frozen BK307.out 1) | ((with_reducible refine gate_callee (f := 22) rfl ?_); refine goesL_ (some 104) rfl rfl Try.func22 (by kernel_rfl) rfl #[.agg #[.slice Ao70 t315.length co70, .int .i64 t318], .agg #[.slice Ao14 t303.length co14, .int .i64 t306]] rfl (by (try simp only [List.map_toArray, List.map_cons, List.map_nil]); first | done | rfl | (simp only [List.length_drop, List.length_take]; rfl)) ?_; (with_reducible refine (l08_same.calls k2 _ _ t315 t318 _ _ t303 t306 true _ ?side1 ?side2 ?side3 ?side4 A64.out).mono ?_); (case side1 => refine (Kd.R_reads' (e := 58) (base := w.heap.size) (ok := fun k_ => (True ∧ some k_ ≠ (.slice Ao14 t303.length co14 : Value).ownBlock)) (n := t315.length) (c := co70) ?_).2.2; exact (by (with_reducible repeat (first | apply Kd.R_alloc | apply Kd.R_drewN | apply Kd.R_drew)); exact (Kd.R_mono (Kd.R_far (p := ⟨gb319, 1, none⟩) (Kd.R_far (p := ⟨gb319, 0, none⟩) (Kd.R_types HO317.out BK319.out (by decide)) (fun _ hk => hk.2) (.slice Ao70 t315.length co70)) (fun _ hk => hk.2) (.int .i64 t318)) (fun _ h_ => h_.1)))); (case side2 => exact (Kd.R_reads' HO317.out).2.1); (case side3 => refine (Kd.R_reads' (e := 58) (base := w.heap.size) (ok := fun k_ => (True ∧ some k_ ≠ (.slice Ao70 t315.length co70 : Value).ownBlock)) (n := t303.length) (c := co14) ?_).2.2; exact (by (with_reducible repeat (first | apply Kd.R_alloc | apply Kd.R_drewN | apply Kd.R_drew)); exact (Kd.R_mono (Kd.R_far (p := ⟨gb319, 1, none⟩) (Kd.R_far (p := ⟨gb319, 0, none⟩) (Kd.R_types HO_308000.out BK319.out (by decide)) (fun _ hk => hk.2) (.slice Ao70 t315.length co70)) (fun _ hk => hk.2) (.int .i64 t318)) (fun _ h_ => h_.1)))); (case side4 => exact (Kd.R_reads' HO_308000.out).2.1); rintro e w75 ⟨rfl, hb⟩; refine ⟨_, rfl, ?_⟩; have n0_ := Aside0.mk (Kd.R_below (by (with_reducible repeat (first | apply Kd.R_alloc | apply Kd.R_drewN | apply Kd.R_drew)); exact (Kd.R_mono (Kd.R_far (p := ⟨gb319, 1, none⟩) (Kd.R_far (p := ⟨gb319, 0, none⟩) (Kd.R_types HO_11.out BK319.out (by decide)) (fun _ hk => hk.2) (.slice Ao70 t315.length co70)) (fun _ hk => hk.2) (.int .i64 t318)) (fun _ h_ => h_.1))) hb); have n1_ := Aside0.mk (Kd.R_below (by (with_reducible repeat (first | apply Kd.R_alloc | apply Kd.R_drewN | apply Kd.R_drew)); exact (Kd.R_mono (Kd.R_far (p := ⟨gb319, 1, none⟩) (Kd.R_far (p := ⟨gb319, 0, none⟩) (Kd.R_types HO_12.out BK319.out (by decide)) (fun _ hk => hk.2) (.slice Ao70 t315.length co70)) (fun _ hk => hk.2) (.int .i64 t318)) (fun _ h_ => h_.1))) hb); have n2_ := Aside0.mk (Kd.R_below (by (with_reducible repeat (first | apply Kd.R_alloc | apply Kd.R_drewN | apply Kd.R_drew)); exact (Kd.R_mono (Kd.R_far (p := ⟨gb319, 1, none⟩) (Kd.R_far (p := ⟨gb319, 0, none⟩) (Kd.R_types HO_308000.out BK319.out (by decide)) (fun _ hk => hk.2) (.slice Ao70 t315.length co70)) (fun _ hk => hk.2) (.int .i64 t318)) (fun _ h_ => h_.1))) hb); have n3_ := Aside0.mk (Kd.R_below (by (with_reducible repeat (first | apply Kd.R_alloc | apply Kd.R_drewN | apply Kd.R_drew)); exact (Kd.R_mono (Kd.R_far (p := ⟨gb319, 1, none⟩) (Kd.R_far (p := ⟨gb319, 0, none⟩) (Kd.R_types HO317.out BK319.out (by decide)) (fun _ hk => hk.2) (.slice Ao70 t315.length co70)) (fun _ hk => hk.2) (.int .i64 t318)) (fun _ h_ => h_.1))) hb); have n4_ := Aside0.mk (blk_below (g := gb298) (o := .cells #[.int .u8 a1_0, .int .u8 a1_1, .int .u8 a1_2] 37 (0, 0)) (by (with_reducible repeat (first | refine blk_drewN ?_ _ | refine blk_drew ?_ | refine blk_alloc ?_ _)); refine blk_far ?_ NB298_319.out _; (with_reducible repeat (first | refine blk_drewN ?_ _ | refine blk_drew ?_ | refine blk_alloc ?_ _)); refine blk_far ?_ NB298_319.out _; (with_reducible repeat (first | refine blk_drewN ?_ _ | refine blk_drew ?_ | refine blk_alloc ?_ _)); exact BK298.out) hb); have n5_ := Aside0.mk (blk_below (g := gb307) (o := .cells #[.slice Ao14 t303.length co14, .int .i64 t306] 40 (0, 0)) (by (with_reducible repeat (first | refine blk_drewN ?_ _ | refine blk_drew ?_ | refine blk_alloc ?_ _)); refine blk_far ?_ NB307_319.out _; (with_reducible repeat (first | refine blk_drewN ?_ _ | refine blk_drew ?_ | refine blk_alloc ?_ _)); refine blk_far ?_ NB307_319.out _; (with_reducible repeat (first | refine blk_drewN ?_ _ | refine blk_drew ?_ | refine blk_alloc ?_ _)); exact BK307.out) hb); have n6_ := Aside0.mk (blk_below (g := gb319) (o := .cells #[.slice Ao70 t315.length co70, .int .i64 t318] 40 (0, 0)) (by (with_reducible repeat (first | refine blk_drewN ?_ _ | refine blk_drew ?_ | refine blk_alloc ?_ _)); refine blk_put (cs := #[.slice Ao70 t315.length co70, .int .i64 0]) ?_ 1 _ rfl; (with_reducible repeat (first | refine blk_drewN ?_ _ | refine blk_drew ?_ | refine blk_alloc ?_ _)); refine blk_put (cs := #[.slice none 0 0, .int .i64 0]) ?_ 0 _ rfl; (with_reducible repeat (first | refine blk_drewN ?_ _ | refine blk_drew ?_ | refine blk_alloc ?_ _)); exact BK319.out) hb); have n7_ := Aside0.mk (below_step (by repeat (first | (with_reducible first | exact HB.out | apply below_alloc | apply pw_below_drewN | apply below_drew1 | refine below_set ?_ GE298.out | refine below_set ?_ GE307.out | refine below_set ?_ GE319.out) | exact HB.out)) hb); clear HO_11; clear HO_12; clear HO_308000; clear HO317; clear BK298; clear BK307; clear BK319; clear HB; have HO_11 := n0_; have HO_12 := n1_; have HO_308000 := n2_; have HO317 := n3_; have BK298 := n4_; have BK307 := n5_; have BK319 := n6_; have HB := n7_; clear n0_ n1_ n2_ n3_ n4_ n5_ n6_ n7_; (try clear hb); (try clear hb2); (try clear hk); (try clear hi)))
         go_ret
         exact ⟨by first | rfl | (simp [errW_none, errW_some] <;> rfl) | (simp only [← hji27]; first | rfl | (simp [errW_none, errW_some] <;> rfl)) | (simp [*, errW_none, errW_some] <;> rfl) | (exfalso; simp_all only [aside0_iff, Option.some.injEq, reduceCtorEq]), by repeat (first | (with_reducible first | exact HB.out | apply below_alloc | apply pw_below_drewN | apply below_drew1 | refine below_set ?_ GE298.out | refine below_set ?_ GE307.out | refine below_set ?_ GE319.out) | exact HB.out)⟩
        ·replace c65 := Bool.eq_false_iff.mpr c65
         subst c65
         have H1 : (some false) = some r := by rw [if_neg (show ¬ (false = true) by decide)] at H; exact H
         clear H
         have H := H1
         clear H1
         exact absurd ((Option.some.inj H).trans HLAW.out) (by decide)
    ·rw [if_neg c28] at H
     have c28b0 : ((t312.length : Int) == (ji27)) = false := beq_eq_false_iff_ne.mpr c28
     have c28b1 : ((t312.length : Int) != (ji27)) = true := bne_iff_ne.mpr c28
     exact absurd ((Option.some.inj H).trans HLAW.out) (by decide)

/-- THE ONE PURE STATEMENT of l08_ExtentPuts: yours. -/
def l08_ExtentPuts.Pure : Prop := ∀ (l0 : List (S37)) (a1_0 : Int) (a1_1 : Int) (a1_2 : Int), (l0.length ≤ maxLen ∧ l0.length * 3 ≤ 140737488351232 ∧ ∀ x1_ ∈ l0, ((Lit.int .u8 x1_.f0).wf = true) ∧ (((Lit.int .u8 x1_.f1).wf = true) ∧ ((Lit.int .u8 x1_.f2).wf = true))) → (((Lit.int .u8 a1_0).wf = true) ∧ (((Lit.int .u8 a1_1).wf = true) ∧ ((Lit.int .u8 a1_2).wf = true))) → ∃ k, l08_ExtentPuts.f k l0 a1_0 a1_1 a1_2 = some true

end Go.Proofs.Ytfhjbhbmbnnimaa.PE
