/- Plain Lean functions with the answers of the Go functions that these laws reach, and proofs that the calls come to them; written by this session's program. -/
import Derived.Test.YtfhjbhbmbnnimaaPEx0
import Derived.Test.YtfhjbhbmbnnimaaPEx7
import Derived.Test.YtfhjbhbmbnnimaaPEx8
import Derived.Test.YtfhjbhbmbnnimaaPEx9
import Derived.Test.YtfhjbhbmbnnimaaPEx13
import Derived.Test.YtfhjbhbmbnnimaaPEx14
namespace Go.Proofs.Ytfhjbhbmbnnimaa.PE
open Go.RowKit Go.Proofs.YtfhjbhbmbnnimaaW.PrintWords Go.Proofs.YtfhjbhbmbnnimaaW.PrintLast Go.Proofs.YtfhjbhbmbnnimaaW.PrintMore
attribute [local go_sem] max2_int min2_int max_two min_two max_three min_three max_four min_four   -- for this text's walks alone
set_option linter.unusedVariables false
set_option linter.unusedSimpArgs false

/-! ### l08_ExtentLimits: function 7 -/
mutual
def l08_ExtentLimits.j0 : Nat → Int → Int → Bool → Bool → Int → Int → Int → Option (Bool)
 | 0, _, _, _, _, _, _, _ => none
 | k + 1, x1, x2, x7, x8, x367000, x367001, x367002 => (extent_Valid.f k (([(⟨x367000, x367001, x367002⟩ : S58)] : List (S58)))).bind fun t371 => (if (t371 != x8) = true then (some false) else (if x1 ≤ 1048576 then (if x2 ≤ 1048576 then (l08_ExtentLimits.j1 k x1 x2 x7 (decide ((wrap64 (x1 + x2)) ≤ 1048576))) else (l08_ExtentLimits.j1 k x1 x2 x7 false)) else (l08_ExtentLimits.j1 k x1 x2 x7 false)))
def l08_ExtentLimits.j1 : Nat → Int → Int → Bool → Bool → Option (Bool)
 | 0, _, _, _, _ => none
 | k + 1, x1, x2, x7, x9 => (l08_put.f ([] : List (S58)) x1 1 x2).bind fun bt372 => ((l08_cut.f ([] : List (S58)) x2).bind fun bt376 => (if x1 < 0 then (l08_ExtentLimits.j2 k x1 x2 x7 x9 true bt372.1 bt372.2 bt376.1 bt376.2) else (l08_ExtentLimits.j2 k x1 x2 x7 x9 (decide (x2 < 1)) bt372.1 bt372.2 bt376.1 bt376.2)))
def l08_ExtentLimits.j2 : Nat → Int → Int → Bool → Bool → Bool → List (S58) → Int → List (S58) → Int → Option (Bool)
 | 0, _, _, _, _, _, _, _, _, _ => none
 | k + 1, x1, x2, x7, x9, x96, x381000, x381001, x382000, x382001 => if x96 = true then (if x381001 = 1 then (if x2 = 0 then (some x7) else (if x382001 = 1 then (some x7) else (if x2 > 0 then (some x7) else (some false)))) else (some false)) else (if x9 = true then (if x381001 = 0 then ((r08_Valid.f k x381000).bind fun t382 => (if t382 = true then ((r08_Size.f k x381000).bind fun t383 => (if t383 = (wrap64 (x1 + x2)) then (if x382001 = 0 then ((r08_Size.f k x382000).bind fun t384 => (if t384 = x2 then (some x7) else (some false))) else (some false)) else (some false))) else (some false))) else (some false)) else (if x381001 = 2 then (if (x381000.length : Int) = 0 then (if ((x382001 == 0) == (decide (x2 ≤ 1048576))) = true then (some x7) else (some false)) else (some false)) else (some false)))
end
def l08_ExtentLimits.f (k : Nat) (a0_0 : Int) (a0_1 : Int) (a0_2 : Int) (a1 : Int) (a2 : Int) : Option (Bool) := (l08_sanity.f).bind fun t367 => (if a0_2 ≥ 1 then (if a0_2 ≤ 1048576 then (if a0_1 ≥ 0 then (if a0_1 ≤ 1048576 then (if (wrap64 (a0_1 + a0_2)) ≤ 1048576 then (if a0_0 = 0 then (if a0_1 = 0 then (l08_ExtentLimits.j0 k a1 a2 t367 true a0_0 a0_1 a0_2) else (if a0_0 = (-1) then (if a0_0 ≥ 1 then (l08_ExtentLimits.j0 k a1 a2 t367 (decide (a0_0 ≤ 4095)) a0_0 a0_1 a0_2) else (l08_ExtentLimits.j0 k a1 a2 t367 false a0_0 a0_1 a0_2)) else (if a0_0 ≥ 1 then (l08_ExtentLimits.j0 k a1 a2 t367 (decide (a0_0 ≤ 4095)) a0_0 a0_1 a0_2) else (l08_ExtentLimits.j0 k a1 a2 t367 false a0_0 a0_1 a0_2)))) else (if a0_0 = (-1) then (if a0_1 = 0 then (l08_ExtentLimits.j0 k a1 a2 t367 true a0_0 a0_1 a0_2) else (if a0_0 ≥ 1 then (l08_ExtentLimits.j0 k a1 a2 t367 (decide (a0_0 ≤ 4095)) a0_0 a0_1 a0_2) else (l08_ExtentLimits.j0 k a1 a2 t367 false a0_0 a0_1 a0_2))) else (if a0_0 ≥ 1 then (l08_ExtentLimits.j0 k a1 a2 t367 (decide (a0_0 ≤ 4095)) a0_0 a0_1 a0_2) else (l08_ExtentLimits.j0 k a1 a2 t367 false a0_0 a0_1 a0_2)))) else (l08_ExtentLimits.j0 k a1 a2 t367 false a0_0 a0_1 a0_2)) else (l08_ExtentLimits.j0 k a1 a2 t367 false a0_0 a0_1 a0_2)) else (l08_ExtentLimits.j0 k a1 a2 t367 false a0_0 a0_1 a0_2)) else (l08_ExtentLimits.j0 k a1 a2 t367 false a0_0 a0_1 a0_2)) else (l08_ExtentLimits.j0 k a1 a2 t367 false a0_0 a0_1 a0_2))
theorem l08_ExtentLimits.mono_l : ∀ k, (∀ y0 y1 y2 y3 y4 y5 y6, LeO (l08_ExtentLimits.j0 k y0 y1 y2 y3 y4 y5 y6) (l08_ExtentLimits.j0 (k + 1) y0 y1 y2 y3 y4 y5 y6)) ∧ (∀ y0 y1 y2 y3, LeO (l08_ExtentLimits.j1 k y0 y1 y2 y3) (l08_ExtentLimits.j1 (k + 1) y0 y1 y2 y3)) ∧ (∀ y0 y1 y2 y3 y4 y5 y6 y7 y8, LeO (l08_ExtentLimits.j2 k y0 y1 y2 y3 y4 y5 y6 y7 y8) (l08_ExtentLimits.j2 (k + 1) y0 y1 y2 y3 y4 y5 y6 y7 y8))
 | 0 => ⟨fun _ _ _ _ _ _ _ r h => by simp [l08_ExtentLimits.j0] at h, fun _ _ _ _ r h => by simp [l08_ExtentLimits.j1] at h, fun _ _ _ _ _ _ _ _ _ r h => by simp [l08_ExtentLimits.j2] at h⟩
 | k + 1 => by
  obtain ⟨ih0, ih1, ih2⟩ := l08_ExtentLimits.mono_l k
  refine ⟨?_, ?_, ?_⟩
  ·intro y0 y1 y2 y3 y4 y5 y6
   unfold l08_ExtentLimits.j0
   repeat' first
   | (with_reducible exact ih0 _ _ _ _ _ _ _)
   | (with_reducible exact ih1 _ _ _ _)
   | (with_reducible exact ih2 _ _ _ _ _ _ _ _ _)
   | (with_reducible exact r08_Size.mono _ _)
   | (with_reducible exact r08_Valid.mono _ _)
   | (with_reducible exact extent_Valid.mono _ _)
   | (with_reducible exact LeO.refl _)
   | (with_reducible exact LeO.none _)
   | (with_reducible refine LeO.ite ?_ ?_)
   | (with_reducible refine LeO.bind ?_ (fun _ => ?_))
   | exact ih0 _ _ _ _ _ _ _
   | exact ih1 _ _ _ _
   | exact ih2 _ _ _ _ _ _ _ _ _
   | exact r08_Size.mono _ _
   | exact r08_Valid.mono _ _
   | exact extent_Valid.mono _ _
   | exact LeO.none _
   | refine LeO.ite ?_ ?_
   | refine LeO.bind ?_ (fun _ => ?_)
  ·intro y0 y1 y2 y3
   unfold l08_ExtentLimits.j1
   repeat' first
   | (with_reducible exact ih0 _ _ _ _ _ _ _)
   | (with_reducible exact ih1 _ _ _ _)
   | (with_reducible exact ih2 _ _ _ _ _ _ _ _ _)
   | (with_reducible exact r08_Size.mono _ _)
   | (with_reducible exact r08_Valid.mono _ _)
   | (with_reducible exact extent_Valid.mono _ _)
   | (with_reducible exact LeO.refl _)
   | (with_reducible exact LeO.none _)
   | (with_reducible refine LeO.ite ?_ ?_)
   | (with_reducible refine LeO.bind ?_ (fun _ => ?_))
   | exact ih0 _ _ _ _ _ _ _
   | exact ih1 _ _ _ _
   | exact ih2 _ _ _ _ _ _ _ _ _
   | exact r08_Size.mono _ _
   | exact r08_Valid.mono _ _
   | exact extent_Valid.mono _ _
   | exact LeO.none _
   | refine LeO.ite ?_ ?_
   | refine LeO.bind ?_ (fun _ => ?_)
  ·intro y0 y1 y2 y3 y4 y5 y6 y7 y8
   unfold l08_ExtentLimits.j2
   repeat' first
   | (with_reducible exact ih0 _ _ _ _ _ _ _)
   | (with_reducible exact ih1 _ _ _ _)
   | (with_reducible exact ih2 _ _ _ _ _ _ _ _ _)
   | (with_reducible exact r08_Size.mono _ _)
   | (with_reducible exact r08_Valid.mono _ _)
   | (with_reducible exact extent_Valid.mono _ _)
   | (with_reducible exact LeO.refl _)
   | (with_reducible exact LeO.none _)
   | (with_reducible refine LeO.ite ?_ ?_)
   | (with_reducible refine LeO.bind ?_ (fun _ => ?_))
   | exact ih0 _ _ _ _ _ _ _
   | exact ih1 _ _ _ _
   | exact ih2 _ _ _ _ _ _ _ _ _
   | exact r08_Size.mono _ _
   | exact r08_Valid.mono _ _
   | exact extent_Valid.mono _ _
   | exact LeO.none _
   | refine LeO.ite ?_ ?_
   | refine LeO.bind ?_ (fun _ => ?_)
theorem l08_ExtentLimits.mono : ∀ a0 a1 a2 a3 a4 k, LeO (l08_ExtentLimits.f k a0 a1 a2 a3 a4) (l08_ExtentLimits.f (k + 1) a0 a1 a2 a3 a4) := by
 intro a0 a1 a2 a3 a4 k
 obtain ⟨ih0, ih1, ih2⟩ := l08_ExtentLimits.mono_l k
 unfold l08_ExtentLimits.f
 repeat' first
   | (with_reducible exact ih0 _ _ _ _ _ _ _)
   | (with_reducible exact ih1 _ _ _ _)
   | (with_reducible exact ih2 _ _ _ _ _ _ _ _ _)
   | (with_reducible exact r08_Size.mono _ _)
   | (with_reducible exact r08_Valid.mono _ _)
   | (with_reducible exact extent_Valid.mono _ _)
   | (with_reducible exact LeO.refl _)
   | (with_reducible exact LeO.none _)
   | (with_reducible refine LeO.ite ?_ ?_)
   | (with_reducible refine LeO.bind ?_ (fun _ => ?_))
   | exact ih0 _ _ _ _ _ _ _
   | exact ih1 _ _ _ _
   | exact ih2 _ _ _ _ _ _ _ _ _
   | exact r08_Size.mono _ _
   | exact r08_Valid.mono _ _
   | exact extent_Valid.mono _ _
   | exact LeO.none _
   | refine LeO.ite ?_ ?_
   | refine LeO.bind ?_ (fun _ => ?_)
set_option maxHeartbeats 8000000 in
set_option maxRecDepth 100000 in
theorem l08_ExtentLimits.calls (k : Nat) (a0_0 : Int) (a0_1 : Int) (a0_2 : Int) (a1 : Int) (a2 : Int) (r : Bool) (w : World) (hr : r = true) (h : l08_ExtentLimits.f k a0_0 a0_1 a0_2 a1 a2 = some r) :
  Calls Try.prog 7 #[.agg #[.int .i64 a0_0, .int .i64 a0_1, .int .i64 a0_2], .int .i64 a1, .int .i64 a2] w fun e w' => e = .returned (.bool r) ∧ Below w.heap.size w w' := by
 have hu58 := Try.underlying58
 have hu40 := Try.underlying40
 have HB := Aside0.mk (Below.refl w.heap.size w)
 have HLAW := Aside0.mk hr
 clear hr
 have H : ((l08_sanity.f).bind fun t367 => (if a0_2 ≥ 1 then (if a0_2 ≤ 1048576 then (if a0_1 ≥ 0 then (if a0_1 ≤ 1048576 then (if (wrap64 (a0_1 + a0_2)) ≤ 1048576 then (if a0_0 = 0 then (if a0_1 = 0 then (l08_ExtentLimits.j0 k a1 a2 t367 true a0_0 a0_1 a0_2) else (if a0_0 = (-1) then (if a0_0 ≥ 1 then (l08_ExtentLimits.j0 k a1 a2 t367 (decide (a0_0 ≤ 4095)) a0_0 a0_1 a0_2) else (l08_ExtentLimits.j0 k a1 a2 t367 false a0_0 a0_1 a0_2)) else (if a0_0 ≥ 1 then (l08_ExtentLimits.j0 k a1 a2 t367 (decide (a0_0 ≤ 4095)) a0_0 a0_1 a0_2) else (l08_ExtentLimits.j0 k a1 a2 t367 false a0_0 a0_1 a0_2)))) else (if a0_0 = (-1) then (if a0_1 = 0 then (l08_ExtentLimits.j0 k a1 a2 t367 true a0_0 a0_1 a0_2) else (if a0_0 ≥ 1 then (l08_ExtentLimits.j0 k a1 a2 t367 (decide (a0_0 ≤ 4095)) a0_0 a0_1 a0_2) else (l08_ExtentLimits.j0 k a1 a2 t367 false a0_0 a0_1 a0_2))) else (if a0_0 ≥ 1 then (l08_ExtentLimits.j0 k a1 a2 t367 (decide (a0_0 ≤ 4095)) a0_0 a0_1 a0_2) else (l08_ExtentLimits.j0 k a1 a2 t367 false a0_0 a0_1 a0_2)))) else (l08_ExtentLimits.j0 k a1 a2 t367 false a0_0 a0_1 a0_2)) else (l08_ExtentLimits.j0 k a1 a2 t367 false a0_0 a0_1 a0_2)) else (l08_ExtentLimits.j0 k a1 a2 t367 false a0_0 a0_1 a0_2)) else (l08_ExtentLimits.j0 k a1 a2 t367 false a0_0 a0_1 a0_2)) else (l08_ExtentLimits.j0 k a1 a2 t367 false a0_0 a0_1 a0_2))) = some r := h
 clear h
 replace H := Option.bind_eq_some_iff.mp H
 obtain ⟨t367, A40, H⟩ := H
 replace H : (if a0_2 ≥ 1 then (if a0_2 ≤ 1048576 then (if a0_1 ≥ 0 then (if a0_1 ≤ 1048576 then (if (wrap64 (a0_1 + a0_2)) ≤ 1048576 then (if a0_0 = 0 then (if a0_1 = 0 then (l08_ExtentLimits.j0 k a1 a2 t367 true a0_0 a0_1 a0_2) else (if a0_0 = (-1) then (if a0_0 ≥ 1 then (l08_ExtentLimits.j0 k a1 a2 t367 (decide (a0_0 ≤ 4095)) a0_0 a0_1 a0_2) else (l08_ExtentLimits.j0 k a1 a2 t367 false a0_0 a0_1 a0_2)) else (if a0_0 ≥ 1 then (l08_ExtentLimits.j0 k a1 a2 t367 (decide (a0_0 ≤ 4095)) a0_0 a0_1 a0_2) else (l08_ExtentLimits.j0 k a1 a2 t367 false a0_0 a0_1 a0_2)))) else (if a0_0 = (-1) then (if a0_1 = 0 then (l08_ExtentLimits.j0 k a1 a2 t367 true a0_0 a0_1 a0_2) else (if a0_0 ≥ 1 then (l08_ExtentLimits.j0 k a1 a2 t367 (decide (a0_0 ≤ 4095)) a0_0 a0_1 a0_2) else (l08_ExtentLimits.j0 k a1 a2 t367 false a0_0 a0_1 a0_2))) else (if a0_0 ≥ 1 then (l08_ExtentLimits.j0 k a1 a2 t367 (decide (a0_0 ≤ 4095)) a0_0 a0_1 a0_2) else (l08_ExtentLimits.j0 k a1 a2 t367 false a0_0 a0_1 a0_2)))) else (l08_ExtentLimits.j0 k a1 a2 t367 false a0_0 a0_1 a0_2)) else (l08_ExtentLimits.j0 k a1 a2 t367 false a0_0 a0_1 a0_2)) else (l08_ExtentLimits.j0 k a1 a2 t367 false a0_0 a0_1 a0_2)) else (l08_ExtentLimits.j0 k a1 a2 t367 false a0_0 a0_1 a0_2)) else (l08_ExtentLimits.j0 k a1 a2 t367 false a0_0 a0_1 a0_2)) = some r := H
 have A4 := Aside0.mk A40
 clear A40
 have HC5 := Aside0.mk H
 clear H
 go_enter Try.func7, Try.ntmps7
 go_upto_region 2 with (first | ((with_reducible refine gate_dst (N := 3) rfl ?_); (try (refine gate_guard (by rfl) ?_; dsimp only)); refine box_event ?hg (N := 3) ?hd (cs := #[.int .i64 a0_0, .int .i64 a0_1, .int .i64 a0_2]) (t := 58) ?hr ?_; (case hd => rfl); (case hg => rfl); (case hr => first | (go_simp; done) | (go_simp; rfl)); intro gb366 hg w6 hbox hb; have n0_ := Aside0.mk (below_step (by repeat (first | (with_reducible first | exact HB.out | apply below_alloc | apply pw_below_drewN | apply below_drew1) | exact HB.out)) hb); have n1_ := Aside0.mk (hbox); have n2_ := Aside0.mk ((by rw [hg]; exact (below_size (by repeat (first | (with_reducible first | exact HB.out | apply below_alloc | apply pw_below_drewN | apply below_drew1) | exact HB.out))) : w.heap.size ≤ gb366)); have n3_ := Aside0.mk ((by rw [hg]; exact (below_size (by repeat (first | (with_reducible first | exact HB.out | apply below_alloc | apply pw_below_drewN | apply below_drew1) | exact HB.out))) : w.heap.size ≤ gb366)); clear HB; have HB := n0_; have BK366 := n1_; have GW366 := n2_; have GE366 := n3_; clear n0_ n1_ n2_ n3_; clear hb hbox hg) | ((with_reducible refine gate_callee (f := 10) rfl ?_); refine goesL_ (some 12) rfl rfl Try.func10 (by kernel_rfl) rfl #[] rfl (by (try simp only [List.map_toArray, List.map_cons, List.map_nil]); first | done | rfl | (simp only [List.length_drop, List.length_take]; rfl)) ?_; (with_reducible refine (l08_sanity.calls  t367 _ A4.out).mono ?_); rintro e w7 ⟨rfl, hb⟩; refine ⟨_, rfl, ?_⟩; have n0_ := Aside0.mk (blk_below (g := gb366) (o := .cells #[.int .i64 a0_0, .int .i64 a0_1, .int .i64 a0_2] 58 (0, 0)) (by (with_reducible repeat (first | refine blk_drewN ?_ _ | refine blk_drew ?_ | refine blk_alloc ?_ _)); exact BK366.out) hb); have n1_ := Aside0.mk (below_step (by repeat (first | (with_reducible first | exact HB.out | apply below_alloc | apply pw_below_drewN | apply below_drew1 | refine below_set ?_ GE366.out) | exact HB.out)) hb); clear BK366; clear HB; have BK366 := n0_; have HB := n1_; clear n0_ n1_; (try clear hb); (try clear hb2); (try clear hk); (try clear hi)))
 (try simp only [Act.put, List.setIfInBounds_toArray, List.set_cons_zero, List.set_cons_succ])
 go_cut [8] (fun v8 wc => ∃ (kq : Nat) (x8_4 : Bool), v8 = .bool x8_4 ∧ Aside0 (l08_ExtentLimits.j0 kq a1 a2 t367 x8_4 a0_0 a0_1 a0_2 = some r) ∧ Aside0 (kq ≤ k) ∧ Aside0 (wc.heap[gb366]? = some (.cells #[.int .i64 a0_0, .int .i64 a0_1, .int .i64 a0_2] 58 (0, 0))) ∧ Aside0 (Below w.heap.size w wc))
 case first =>
  have H := HC5.out
  clear HC5
  by_cases c8 : a0_2 ≥ 1
  ·rw [if_pos c8] at H
   have c8b0 : decide (1 ≤ a0_2) = true := decide_eq_true c8
   clear c8
   (first | rw [c8b0] | (simp only [i64_w, i32_w]; rw [c8b0]) | skip)
   by_cases c9 : a0_2 ≤ 1048576
   ·rw [if_pos c9] at H
    have c9b0 : decide (a0_2 ≤ 1048576) = true := decide_eq_true c9
    clear c9
    by_cases c10 : a0_1 ≥ 0
    ·rw [if_pos c10] at H
     have c10b0 : decide (0 ≤ a0_1) = true := decide_eq_true c10
     clear c10
     by_cases c11 : a0_1 ≤ 1048576
     ·rw [if_pos c11] at H
      have c11b0 : decide (a0_1 ≤ 1048576) = true := decide_eq_true c11
      clear c11
      by_cases c12 : (wrap64 (a0_1 + a0_2)) ≤ 1048576
      ·rw [if_pos c12] at H
       have c12b0 : decide ((wrap64 (a0_1 + a0_2)) ≤ 1048576) = true := decide_eq_true c12
       clear c12
       by_cases c13 : a0_0 = 0
       ·rw [if_pos c13] at H
        have c13b0 : (a0_0 == 0) = true := beq_iff_eq.mpr c13
        have c13b1 : (a0_0 != 0) = false := bne_eq_false_iff_eq.mpr c13
        clear c13
        by_cases c14 : a0_1 = 0
        ·rw [if_pos c14] at H
         have c14b0 : (a0_1 == 0) = true := beq_iff_eq.mpr c14
         have c14b1 : (a0_1 != 0) = false := bne_eq_false_iff_eq.mpr c14
         clear c14
         have H' := Aside0.mk H
         clear H
         have hcz15_0 : w7.cell? ⟨gb366, 0, none⟩ = some (.int .i64 a0_0) := (blk_cell BK366.out 0).trans rfl
         have hcz15_1 : w7.cell? ⟨gb366, 1, none⟩ = some (.int .i64 a0_1) := (blk_cell BK366.out 1).trans rfl
         have hcz15_2 : w7.cell? ⟨gb366, 2, none⟩ = some (.int .i64 a0_2) := (blk_cell BK366.out 2).trans rfl
         have hfz15_0 := blk_frozen BK366.out 0
         have hfz15_1 := blk_frozen BK366.out 1
         have hfz15_2 := blk_frozen BK366.out 2
         go_wp2
         go_meet
         case rel => exact ⟨_, (true), (by first | rfl | (simp; done) | (simp [*]; done)), H', ⟨by first | omega | exact Nat.le_refl _⟩, ⟨by (with_reducible repeat (first | refine blk_drewN ?_ _ | refine blk_drew ?_ | refine blk_alloc ?_ _)); exact BK366.out⟩, ⟨by repeat (first | (with_reducible first | exact HB.out | apply below_alloc | apply pw_below_drewN | apply below_drew1 | refine below_set ?_ GE366.out) | exact HB.out)⟩⟩
        ·rw [if_neg c14] at H
         have c14b0 : (a0_1 == 0) = false := beq_eq_false_iff_ne.mpr c14
         have c14b1 : (a0_1 != 0) = true := bne_iff_ne.mpr c14
         by_cases c16 : a0_0 = (-1)
         ·rw [if_pos c16] at H
          have c16b0 : (a0_0 == (-1)) = true := beq_iff_eq.mpr c16
          have c16b1 : (a0_0 != (-1)) = false := bne_eq_false_iff_eq.mpr c16
          clear c16
          by_cases c17 : a0_0 ≥ 1
          ·rw [if_pos c17] at H
           have c17b0 : decide (1 ≤ a0_0) = true := decide_eq_true c17
           clear c17
           have H' := Aside0.mk H
           clear H
           have hcz18_0 : w7.cell? ⟨gb366, 0, none⟩ = some (.int .i64 a0_0) := (blk_cell BK366.out 0).trans rfl
           have hcz18_1 : w7.cell? ⟨gb366, 1, none⟩ = some (.int .i64 a0_1) := (blk_cell BK366.out 1).trans rfl
           have hcz18_2 : w7.cell? ⟨gb366, 2, none⟩ = some (.int .i64 a0_2) := (blk_cell BK366.out 2).trans rfl
           have hfz18_0 := blk_frozen BK366.out 0
           have hfz18_1 := blk_frozen BK366.out 1
           have hfz18_2 := blk_frozen BK366.out 2
           go_wp2
           go_meet
           case rel => exact ⟨_, (decide (a0_0 ≤ 4095)), (by first | rfl | (simp; done) | (simp [*]; done)), H', ⟨by first | omega | exact Nat.le_refl _⟩, ⟨by (with_reducible repeat (first | refine blk_drewN ?_ _ | refine blk_drew ?_ | refine blk_alloc ?_ _)); exact BK366.out⟩, ⟨by repeat (first | (with_reducible first | exact HB.out | apply below_alloc | apply pw_below_drewN | apply below_drew1 | refine below_set ?_ GE366.out) | exact HB.out)⟩⟩
          ·rw [if_neg c17] at H
           have c17b0 : decide (1 ≤ a0_0) = false := decide_eq_false c17
           clear c17
           have H' := Aside0.mk H
           clear H
           have hcz19_0 : w7.cell? ⟨gb366, 0, none⟩ = some (.int .i64 a0_0) := (blk_cell BK366.out 0).trans rfl
           have hcz19_1 : w7.cell? ⟨gb366, 1, none⟩ = some (.int .i64 a0_1) := (blk_cell BK366.out 1).trans rfl
           have hcz19_2 : w7.cell? ⟨gb366, 2, none⟩ = some (.int .i64 a0_2) := (blk_cell BK366.out 2).trans rfl
           have hfz19_0 := blk_frozen BK366.out 0
           have hfz19_1 := blk_frozen BK366.out 1
           have hfz19_2 := blk_frozen BK366.out 2
           go_wp2
           go_meet
           case rel => exact ⟨_, (false), (by first | rfl | (simp; done) | (simp [*]; done)), H', ⟨by first | omega | exact Nat.le_refl _⟩, ⟨by (with_reducible repeat (first | refine blk_drewN ?_ _ | refine blk_drew ?_ | refine blk_alloc ?_ _)); exact BK366.out⟩, ⟨by repeat (first | (with_reducible first | exact HB.out | apply below_alloc | apply pw_below_drewN | apply below_drew1 | refine below_set ?_ GE366.out) | exact HB.out)⟩⟩
         ·rw [if_neg c16] at H
          have c16b0 : (a0_0 == (-1)) = false := beq_eq_false_iff_ne.mpr c16
          have c16b1 : (a0_0 != (-1)) = true := bne_iff_ne.mpr c16
          by_cases c20 : a0_0 ≥ 1
          ·rw [if_pos c20] at H
           have c20b0 : decide (1 ≤ a0_0) = true := decide_eq_true c20
           clear c20
           have H' := Aside0.mk H
           clear H
           have hcz21_0 : w7.cell? ⟨gb366, 0, none⟩ = some (.int .i64 a0_0) := (blk_cell BK366.out 0).trans rfl
           have hcz21_1 : w7.cell? ⟨gb366, 1, none⟩ = some (.int .i64 a0_1) := (blk_cell BK366.out 1).trans rfl
           have hcz21_2 : w7.cell? ⟨gb366, 2, none⟩ = some (.int .i64 a0_2) := (blk_cell BK366.out 2).trans rfl
           have hfz21_0 := blk_frozen BK366.out 0
           have hfz21_1 := blk_frozen BK366.out 1
           have hfz21_2 := blk_frozen BK366.out 2
           go_wp2
           go_meet
           case rel => exact ⟨_, (decide (a0_0 ≤ 4095)), (by first | rfl | (simp; done) | (simp [*]; done)), H', ⟨by first | omega | exact Nat.le_refl _⟩, ⟨by (with_reducible repeat (first | refine blk_drewN ?_ _ | refine blk_drew ?_ | refine blk_alloc ?_ _)); exact BK366.out⟩, ⟨by repeat (first | (with_reducible first | exact HB.out | apply below_alloc | apply pw_below_drewN | apply below_drew1 | refine below_set ?_ GE366.out) | exact HB.out)⟩⟩
          ·rw [if_neg c20] at H
           have c20b0 : decide (1 ≤ a0_0) = false := decide_eq_false c20
           clear c20
           have H' := Aside0.mk H
           clear H
           have hcz22_0 : w7.cell? ⟨gb366, 0, none⟩ = some (.int .i64 a0_0) := (blk_cell BK366.out 0).trans rfl
           have hcz22_1 : w7.cell? ⟨gb366, 1, none⟩ = some (.int .i64 a0_1) := (blk_cell BK366.out 1).trans rfl
           have hcz22_2 : w7.cell? ⟨gb366, 2, none⟩ = some (.int .i64 a0_2) := (blk_cell BK366.out 2).trans rfl
           have hfz22_0 := blk_frozen BK366.out 0
           have hfz22_1 := blk_frozen BK366.out 1
           have hfz22_2 := blk_frozen BK366.out 2
           go_wp2
           go_meet
           case rel => exact ⟨_, (false), (by first | rfl | (simp; done) | (simp [*]; done)), H', ⟨by first | omega | exact Nat.le_refl _⟩, ⟨by (with_reducible repeat (first | refine blk_drewN ?_ _ | refine blk_drew ?_ | refine blk_alloc ?_ _)); exact BK366.out⟩, ⟨by repeat (first | (with_reducible first | exact HB.out | apply below_alloc | apply pw_below_drewN | apply below_drew1 | refine below_set ?_ GE366.out) | exact HB.out)⟩⟩
       ·rw [if_neg c13] at H
        have c13b0 : (a0_0 == 0) = false := beq_eq_false_iff_ne.mpr c13
        have c13b1 : (a0_0 != 0) = true := bne_iff_ne.mpr c13
        by_cases c23 : a0_0 = (-1)
        ·rw [if_pos c23] at H
         have c23b0 : (a0_0 == (-1)) = true := beq_iff_eq.mpr c23
         have c23b1 : (a0_0 != (-1)) = false := bne_eq_false_iff_eq.mpr c23
         clear c23
         by_cases c24 : a0_1 = 0
         ·rw [if_pos c24] at H
          have c24b0 : (a0_1 == 0) = true := beq_iff_eq.mpr c24
          have c24b1 : (a0_1 != 0) = false := bne_eq_false_iff_eq.mpr c24
          clear c24
          have H' := Aside0.mk H
          clear H
          have hcz25_0 : w7.cell? ⟨gb366, 0, none⟩ = some (.int .i64 a0_0) := (blk_cell BK366.out 0).trans rfl
          have hcz25_1 : w7.cell? ⟨gb366, 1, none⟩ = some (.int .i64 a0_1) := (blk_cell BK366.out 1).trans rfl
          have hcz25_2 : w7.cell? ⟨gb366, 2, none⟩ = some (.int .i64 a0_2) := (blk_cell BK366.out 2).trans rfl
          have hfz25_0 := blk_frozen BK366.out 0
          have hfz25_1 := blk_frozen BK366.out 1
          have hfz25_2 := blk_frozen BK366.out 2
          go_wp2
          go_meet
          case rel => exact ⟨_, (true), (by first | rfl | (simp; done) | (simp [*]; done)), H', ⟨by first | omega | exact Nat.le_refl _⟩, ⟨by (with_reducible repeat (first | refine blk_drewN ?_ _ | refine blk_drew ?_ | refine blk_alloc ?_ _)); exact BK366.out⟩, ⟨by repeat (first | (with_reducible first | exact HB.out | apply below_alloc | apply pw_below_drewN | apply below_drew1 | refine below_set ?_ GE366.out) | exact HB.out)⟩⟩
         ·rw [if_neg c24] at H
          have c24b0 : (a0_1 == 0) = false := beq_eq_false_iff_ne.mpr c24
          have c24b1 : (a0_1 != 0) = true := bne_iff_ne.mpr c24
          by_cases c26 : a0_0 ≥ 1
          ·rw [if_pos c26] at H
           have c26b0 : decide (1 ≤ a0_0) = true := decide_eq_true c26
           clear c26
           have H' := Aside0.mk H
           clear H
           have hcz27_0 : w7.cell? ⟨gb366, 0, none⟩ = some (.int .i64 a0_0) := (blk_cell BK366.out 0).trans rfl
           have hcz27_1 : w7.cell? ⟨gb366, 1, none⟩ = some (.int .i64 a0_1) := (blk_cell BK366.out 1).trans rfl
           have hcz27_2 : w7.cell? ⟨gb366, 2, none⟩ = some (.int .i64 a0_2) := (blk_cell BK366.out 2).trans rfl
           have hfz27_0 := blk_frozen BK366.out 0
           have hfz27_1 := blk_frozen BK366.out 1
           have hfz27_2 := blk_frozen BK366.out 2
           go_wp2
           go_meet
           case rel => exact ⟨_, (decide (a0_0 ≤ 4095)), (by first | rfl | (simp; done) | (simp [*]; done)), H', ⟨by first | omega | exact Nat.le_refl _⟩, ⟨by (with_reducible repeat (first | refine blk_drewN ?_ _ | refine blk_drew ?_ | refine blk_alloc ?_ _)); exact BK366.out⟩, ⟨by repeat (first | (with_reducible first | exact HB.out | apply below_alloc | apply pw_below_drewN | apply below_drew1 | refine below_set ?_ GE366.out) | exact HB.out)⟩⟩
          ·rw [if_neg c26] at H
           have c26b0 : decide (1 ≤ a0_0) = false := decide_eq_false c26
           clear c26
           have H' := Aside0.mk H
           clear H
           have hcz28_0 : w7.cell? ⟨gb366, 0, none⟩ = some (.int .i64 a0_0) := (blk_cell BK366.out 0).trans rfl
           have hcz28_1 : w7.cell? ⟨gb366, 1, none⟩ = some (.int .i64 a0_1) := (blk_cell BK366.out 1).trans rfl
           have hcz28_2 : w7.cell? ⟨gb366, 2, none⟩ = some (.int .i64 a0_2) := (blk_cell BK366.out 2).trans rfl
           have hfz28_0 := blk_frozen BK366.out 0
           have hfz28_1 := blk_frozen BK366.out 1
           have hfz28_2 := blk_frozen BK366.out 2
           go_wp2
           go_meet
           case rel => exact ⟨_, (false), (by first | rfl | (simp; done) | (simp [*]; done)), H', ⟨by first | omega | exact Nat.le_refl _⟩, ⟨by (with_reducible repeat (first | refine blk_drewN ?_ _ | refine blk_drew ?_ | refine blk_alloc ?_ _)); exact BK366.out⟩, ⟨by repeat (first | (with_reducible first | exact HB.out | apply below_alloc | apply pw_below_drewN | apply below_drew1 | refine below_set ?_ GE366.out) | exact HB.out)⟩⟩
        ·rw [if_neg c23] at H
         have c23b0 : (a0_0 == (-1)) = false := beq_eq_false_iff_ne.mpr c23
         have c23b1 : (a0_0 != (-1)) = true := bne_iff_ne.mpr c23
         by_cases c29 : a0_0 ≥ 1
         ·rw [if_pos c29] at H
          have c29b0 : decide (1 ≤ a0_0) = true := decide_eq_true c29
          clear c29
          have H' := Aside0.mk H
          clear H
          have hcz30_0 : w7.cell? ⟨gb366, 0, none⟩ = some (.int .i64 a0_0) := (blk_cell BK366.out 0).trans rfl
          have hcz30_1 : w7.cell? ⟨gb366, 1, none⟩ = some (.int .i64 a0_1) := (blk_cell BK366.out 1).trans rfl
          have hcz30_2 : w7.cell? ⟨gb366, 2, none⟩ = some (.int .i64 a0_2) := (blk_cell BK366.out 2).trans rfl
          have hfz30_0 := blk_frozen BK366.out 0
          have hfz30_1 := blk_frozen BK366.out 1
          have hfz30_2 := blk_frozen BK366.out 2
          go_wp2
          go_meet
          case rel => exact ⟨_, (decide (a0_0 ≤ 4095)), (by first | rfl | (simp; done) | (simp [*]; done)), H', ⟨by first | omega | exact Nat.le_refl _⟩, ⟨by (with_reducible repeat (first | refine blk_drewN ?_ _ | refine blk_drew ?_ | refine blk_alloc ?_ _)); exact BK366.out⟩, ⟨by repeat (first | (with_reducible first | exact HB.out | apply below_alloc | apply pw_below_drewN | apply below_drew1 | refine below_set ?_ GE366.out) | exact HB.out)⟩⟩
         ·rw [if_neg c29] at H
          have c29b0 : decide (1 ≤ a0_0) = false := decide_eq_false c29
          clear c29
          have H' := Aside0.mk H
          clear H
          have hcz31_0 : w7.cell? ⟨gb366, 0, none⟩ = some (.int .i64 a0_0) := (blk_cell BK366.out 0).trans rfl
          have hcz31_1 : w7.cell? ⟨gb366, 1, none⟩ = some (.int .i64 a0_1) := (blk_cell BK366.out 1).trans rfl
          have hcz31_2 : w7.cell? ⟨gb366, 2, none⟩ = some (.int .i64 a0_2) := (blk_cell BK366.out 2).trans rfl
          have hfz31_0 := blk_frozen BK366.out 0
          have hfz31_1 := blk_frozen BK366.out 1
          have hfz31_2 := blk_frozen BK366.out 2
          go_wp2
          go_meet
          case rel => exact ⟨_, (false), (by first | rfl | (simp; done) | (simp [*]; done)), H', ⟨by first | omega | exact Nat.le_refl _⟩, ⟨by (with_reducible repeat (first | refine blk_drewN ?_ _ | refine blk_drew ?_ | refine blk_alloc ?_ _)); exact BK366.out⟩, ⟨by repeat (first | (with_reducible first | exact HB.out | apply below_alloc | apply pw_below_drewN | apply below_drew1 | refine below_set ?_ GE366.out) | exact HB.out)⟩⟩
      ·rw [if_neg c12] at H
       have c12b0 : decide ((wrap64 (a0_1 + a0_2)) ≤ 1048576) = false := decide_eq_false c12
       clear c12
       have H' := Aside0.mk H
       clear H
       have hcz32_0 : w7.cell? ⟨gb366, 0, none⟩ = some (.int .i64 a0_0) := (blk_cell BK366.out 0).trans rfl
       have hcz32_1 : w7.cell? ⟨gb366, 1, none⟩ = some (.int .i64 a0_1) := (blk_cell BK366.out 1).trans rfl
       have hcz32_2 : w7.cell? ⟨gb366, 2, none⟩ = some (.int .i64 a0_2) := (blk_cell BK366.out 2).trans rfl
       have hfz32_0 := blk_frozen BK366.out 0
       have hfz32_1 := blk_frozen BK366.out 1
       have hfz32_2 := blk_frozen BK366.out 2
       go_wp2
       go_meet
       case rel => exact ⟨_, (false), (by first | rfl | (simp; done) | (simp [*]; done)), H', ⟨by first | omega | exact Nat.le_refl _⟩, ⟨by (with_reducible repeat (first | refine blk_drewN ?_ _ | refine blk_drew ?_ | refine blk_alloc ?_ _)); exact BK366.out⟩, ⟨by repeat (first | (with_reducible first | exact HB.out | apply below_alloc | apply pw_below_drewN | apply below_drew1 | refine below_set ?_ GE366.out) | exact HB.out)⟩⟩
     ·rw [if_neg c11] at H
      have c11b0 : decide (a0_1 ≤ 1048576) = false := decide_eq_false c11
      clear c11
      have H' := Aside0.mk H
      clear H
      have hcz33_0 : w7.cell? ⟨gb366, 0, none⟩ = some (.int .i64 a0_0) := (blk_cell BK366.out 0).trans rfl
      have hcz33_1 : w7.cell? ⟨gb366, 1, none⟩ = some (.int .i64 a0_1) := (blk_cell BK366.out 1).trans rfl
      have hcz33_2 : w7.cell? ⟨gb366, 2, none⟩ = some (.int .i64 a0_2) := (blk_cell BK366.out 2).trans rfl
      have hfz33_0 := blk_frozen BK366.out 0
      have hfz33_1 := blk_frozen BK366.out 1
      have hfz33_2 := blk_frozen BK366.out 2
      go_wp2
      go_meet
      case rel => exact ⟨_, (false), (by first | rfl | (simp; done) | (simp [*]; done)), H', ⟨by first | omega | exact Nat.le_refl _⟩, ⟨by (with_reducible repeat (first | refine blk_drewN ?_ _ | refine blk_drew ?_ | refine blk_alloc ?_ _)); exact BK366.out⟩, ⟨by repeat (first | (with_reducible first | exact HB.out | apply below_alloc | apply pw_below_drewN | apply below_drew1 | refine below_set ?_ GE366.out) | exact HB.out)⟩⟩
    ·rw [if_neg c10] at H
     have c10b0 : decide (0 ≤ a0_1) = false := decide_eq_false c10
     clear c10
     have H' := Aside0.mk H
     clear H
     have hcz34_0 : w7.cell? ⟨gb366, 0, none⟩ = some (.int .i64 a0_0) := (blk_cell BK366.out 0).trans rfl
     have hcz34_1 : w7.cell? ⟨gb366, 1, none⟩ = some (.int .i64 a0_1) := (blk_cell BK366.out 1).trans rfl
     have hcz34_2 : w7.cell? ⟨gb366, 2, none⟩ = some (.int .i64 a0_2) := (blk_cell BK366.out 2).trans rfl
     have hfz34_0 := blk_frozen BK366.out 0
     have hfz34_1 := blk_frozen BK366.out 1
     have hfz34_2 := blk_frozen BK366.out 2
     go_wp2
     go_meet
     case rel => exact ⟨_, (false), (by first | rfl | (simp; done) | (simp [*]; done)), H', ⟨by first | omega | exact Nat.le_refl _⟩, ⟨by (with_reducible repeat (first | refine blk_drewN ?_ _ | refine blk_drew ?_ | refine blk_alloc ?_ _)); exact BK366.out⟩, ⟨by repeat (first | (with_reducible first | exact HB.out | apply below_alloc | apply pw_below_drewN | apply below_drew1 | refine below_set ?_ GE366.out) | exact HB.out)⟩⟩
   ·rw [if_neg c9] at H
    have c9b0 : decide (a0_2 ≤ 1048576) = false := decide_eq_false c9
    clear c9
    have H' := Aside0.mk H
    clear H
    have hcz35_0 : w7.cell? ⟨gb366, 0, none⟩ = some (.int .i64 a0_0) := (blk_cell BK366.out 0).trans rfl
    have hcz35_1 : w7.cell? ⟨gb366, 1, none⟩ = some (.int .i64 a0_1) := (blk_cell BK366.out 1).trans rfl
    have hcz35_2 : w7.cell? ⟨gb366, 2, none⟩ = some (.int .i64 a0_2) := (blk_cell BK366.out 2).trans rfl
    have hfz35_0 := blk_frozen BK366.out 0
    have hfz35_1 := blk_frozen BK366.out 1
    have hfz35_2 := blk_frozen BK366.out 2
    go_wp2
    go_meet
    case rel => exact ⟨_, (false), (by first | rfl | (simp; done) | (simp [*]; done)), H', ⟨by first | omega | exact Nat.le_refl _⟩, ⟨by (with_reducible repeat (first | refine blk_drewN ?_ _ | refine blk_drew ?_ | refine blk_alloc ?_ _)); exact BK366.out⟩, ⟨by repeat (first | (with_reducible first | exact HB.out | apply below_alloc | apply pw_below_drewN | apply below_drew1 | refine below_set ?_ GE366.out) | exact HB.out)⟩⟩
  ·rw [if_neg c8] at H
   have c8b0 : decide (1 ≤ a0_2) = false := decide_eq_false c8
   clear c8
   (first | rw [c8b0] | (simp only [i64_w, i32_w]; rw [c8b0]) | skip)
   have H' := Aside0.mk H
   clear H
   have hcz36_0 : w7.cell? ⟨gb366, 0, none⟩ = some (.int .i64 a0_0) := (blk_cell BK366.out 0).trans rfl
   have hcz36_1 : w7.cell? ⟨gb366, 1, none⟩ = some (.int .i64 a0_1) := (blk_cell BK366.out 1).trans rfl
   have hcz36_2 : w7.cell? ⟨gb366, 2, none⟩ = some (.int .i64 a0_2) := (blk_cell BK366.out 2).trans rfl
   have hfz36_0 := blk_frozen BK366.out 0
   have hfz36_1 := blk_frozen BK366.out 1
   have hfz36_2 := blk_frozen BK366.out 2
   go_wp2
   go_meet
   case rel => exact ⟨_, (false), (by first | rfl | (simp; done) | (simp [*]; done)), H', ⟨by first | omega | exact Nat.le_refl _⟩, ⟨by (with_reducible repeat (first | refine blk_drewN ?_ _ | refine blk_drew ?_ | refine blk_alloc ?_ _)); exact BK366.out⟩, ⟨by repeat (first | (with_reducible first | exact HB.out | apply below_alloc | apply pw_below_drewN | apply below_drew1 | refine below_set ?_ GE366.out) | exact HB.out)⟩⟩
 case rest =>
  clear HC5
  try clear c1
  try clear c2
  try clear p2
  try clear p6
  try clear c7
  try clear c8
  try clear c8b0
  try clear c9
  try clear c9b0
  try clear c10
  try clear c10b0
  try clear c11
  try clear c11b0
  try clear c12
  try clear c12b0
  try clear c13
  try clear c13b0
  try clear c13b1
  try clear c14
  try clear c14b0
  try clear c14b1
  try clear c16
  try clear c16b0
  try clear c16b1
  try clear c17
  try clear c17b0
  try clear c20
  try clear c20b0
  try clear c23
  try clear c23b0
  try clear c23b1
  try clear c24
  try clear c24b0
  try clear c24b1
  try clear c26
  try clear c26b0
  try clear c29
  try clear c29b0
  try clear hcz15_0
  try clear hcz15_1
  try clear hcz15_2
  try clear hcz18_0
  try clear hcz18_1
  try clear hcz18_2
  try clear hcz19_0
  try clear hcz19_1
  try clear hcz19_2
  try clear hcz21_0
  try clear hcz21_1
  try clear hcz21_2
  try clear hcz22_0
  try clear hcz22_1
  try clear hcz22_2
  try clear hcz25_0
  try clear hcz25_1
  try clear hcz25_2
  try clear hcz27_0
  try clear hcz27_1
  try clear hcz27_2
  try clear hcz28_0
  try clear hcz28_1
  try clear hcz28_2
  try clear hcz30_0
  try clear hcz30_1
  try clear hcz30_2
  try clear hcz31_0
  try clear hcz31_1
  try clear hcz31_2
  try clear hcz32_0
  try clear hcz32_1
  try clear hcz32_2
  try clear hcz33_0
  try clear hcz33_1
  try clear hcz33_2
  try clear hcz34_0
  try clear hcz34_1
  try clear hcz34_2
  try clear hcz35_0
  try clear hcz35_1
  try clear hcz35_2
  try clear hcz36_0
  try clear hcz36_1
  try clear hcz36_2
  try clear hfz15_0
  try clear hfz15_1
  try clear hfz15_2
  try clear hfz18_0
  try clear hfz18_1
  try clear hfz18_2
  try clear hfz19_0
  try clear hfz19_1
  try clear hfz19_2
  try clear hfz21_0
  try clear hfz21_1
  try clear hfz21_2
  try clear hfz22_0
  try clear hfz22_1
  try clear hfz22_2
  try clear hfz25_0
  try clear hfz25_1
  try clear hfz25_2
  try clear hfz27_0
  try clear hfz27_1
  try clear hfz27_2
  try clear hfz28_0
  try clear hfz28_1
  try clear hfz28_2
  try clear hfz30_0
  try clear hfz30_1
  try clear hfz30_2
  try clear hfz31_0
  try clear hfz31_1
  try clear hfz31_2
  try clear hfz32_0
  try clear hfz32_1
  try clear hfz32_2
  try clear hfz33_0
  try clear hfz33_1
  try clear hfz33_2
  try clear hfz34_0
  try clear hfz34_1
  try clear hfz34_2
  try clear hfz35_0
  try clear hfz35_1
  try clear hfz35_2
  try clear hfz36_0
  try clear hfz36_1
  try clear hfz36_2
  obtain ⟨kq, x8_4, rfl, HA, HJ4, BK366, HB⟩ := hcut
  cases kq with
  | zero => exact absurd HA.out (by simp [l08_ExtentLimits.j0])
  | succ kj4 =>
   have H := HA.out
   clear HA
   simp only [l08_ExtentLimits.j0] at H
   obtain ⟨y368, hy368⟩ : ∃ y_ : List (S58), y_ = (([(⟨a0_0, a0_1, a0_2⟩ : S58)] : List (S58))) := ⟨_, rfl⟩
   replace H : ((extent_Valid.f kj4 y368).bind fun t371 => (if (t371 != x8_4) = true then (some false) else (if a1 ≤ 1048576 then (if a2 ≤ 1048576 then (l08_ExtentLimits.j1 kj4 a1 a2 t367 (decide ((wrap64 (a1 + a2)) ≤ 1048576))) else (l08_ExtentLimits.j1 kj4 a1 a2 t367 false)) else (l08_ExtentLimits.j1 kj4 a1 a2 t367 false)))) = some r := by first | (rw [hy368]; with_reducible exact H) | (have H2_ := (Option.bind_some _ _).symm.trans H; rw [hy368]; with_reducible exact H2_) | (have H2_ := (Option.bind_some _ _).symm.trans H; with_reducible exact H2_) | with_reducible exact H | (rw [hy368]; exact H) | exact H
   have Ny368 := Aside0.mk hy368
   clear hy368
   replace H := Option.bind_eq_some_iff.mp H
   obtain ⟨t371, A370, H⟩ := H
   replace H : (if (t371 != x8_4) = true then (some false) else (if a1 ≤ 1048576 then (if a2 ≤ 1048576 then (l08_ExtentLimits.j1 kj4 a1 a2 t367 (decide ((wrap64 (a1 + a2)) ≤ 1048576))) else (l08_ExtentLimits.j1 kj4 a1 a2 t367 false)) else (l08_ExtentLimits.j1 kj4 a1 a2 t367 false))) = some r := H
   have A37 := Aside0.mk A370
   clear A370
   by_cases c38 : (t371 != x8_4) = true
   ·rw [if_pos c38] at H
    have c38b0 : (t371 != x8_4) = true := c38
    (try (have c38b1 : decide (t371 = x8_4) = false := by simpa using c38))
    (try (have c38b2 : (t371 == x8_4) = false := by simpa using c38))
    (try (have c38b3 : ¬ (t371 = x8_4) := by simpa using c38))
    clear c38
    exact absurd ((Option.some.inj H).trans HLAW.out) (by decide)
   ·rw [if_neg c38] at H
    have c38b0 : (t371 != x8_4) = false := by simpa using c38
    (try (have c38b1 : decide (t371 = x8_4) = true := by simpa using c38))
    (try (have c38b2 : (t371 == x8_4) = true := by simpa using c38))
    clear c38
    have HC39 := Aside0.mk H
    clear H
    have hcz40_0 : wc.cell? ⟨gb366, 0, none⟩ = some (.int .i64 a0_0) := (blk_cell BK366.out 0).trans rfl
    have hcz40_1 : wc.cell? ⟨gb366, 1, none⟩ = some (.int .i64 a0_1) := (blk_cell BK366.out 1).trans rfl
    have hcz40_2 : wc.cell? ⟨gb366, 2, none⟩ = some (.int .i64 a0_2) := (blk_cell BK366.out 2).trans rfl
    have hfz40_0 := blk_frozen BK366.out 0
    have hfz40_1 := blk_frozen BK366.out 1
    have hfz40_2 := blk_frozen BK366.out 2
    go_upto_region 5 with (first | ((with_reducible refine gate_dst (N := 70) rfl ?_); (try (refine gate_guard (by rfl) ?_; dsimp only)); refine Kd.R_lit k58 _ 58 ?hg (N := 70) ?hd (xs := ([(⟨a0_0, a0_1, a0_2⟩ : S58)] : List (S58))) (inner := [.int .i64 a0_0, .int .i64 a0_1, .int .i64 a0_2]) (ok := fun _ => True) (okp := fun _ => True) ?hr ?hp (fun _ hk => hk) trivial (Below.refl _ _) (Nat.le_refl _) (by simp) ?_; (case hd => rfl); (case hg => rfl); (case hr => first | (go_simp; done) | (go_simp; rfl)); (case hp => exact (Reps.c3 (show Kd.M k58 _ _ _ (⟨a0_0, a0_1, a0_2⟩ : S58) [.int .i64 a0_0, .int .i64 a0_1, .int .i64 a0_2] from (k58_mkM _ _ _ (⟨a0_0, a0_1, a0_2⟩ : S58) )) (Reps.none _ _))); intro v369 w41 ho42 hb hg_ hnew_; clear hg_ hnew_; (first | rw [← Ny368.out] at ho42 | (simp only [Int.reduceToNat] at ho42; rw [← Ny368.out] at ho42)); have n0_ := Aside0.mk (Kd.R_lower (Kd.R_newB ho42 (g := gb366) (o := .cells #[.int .i64 a0_0, .int .i64 a0_1, .int .i64 a0_2] 58 (0, 0)) (by (with_reducible repeat (first | refine blk_drewN ?_ _ | refine blk_drew ?_ | refine blk_alloc ?_ _)); exact BK366.out)) (below_size (by repeat (first | (with_reducible first | exact HB.out | apply below_alloc | apply pw_below_drewN | apply below_drew1 | refine below_set ?_ GE366.out) | exact HB.out)))); have n1_ := Aside0.mk (blk_below (g := gb366) (o := .cells #[.int .i64 a0_0, .int .i64 a0_1, .int .i64 a0_2] 58 (0, 0)) (by (with_reducible repeat (first | refine blk_drewN ?_ _ | refine blk_drew ?_ | refine blk_alloc ?_ _)); exact BK366.out) hb); have n2_ := Aside0.mk (below_step (by repeat (first | (with_reducible first | exact HB.out | apply below_alloc | apply pw_below_drewN | apply below_drew1 | refine below_set ?_ GE366.out) | exact HB.out)) hb); clear BK366; clear HB; have HO370 := n0_; have BK366 := n1_; have HB := n2_; clear n0_ n1_ n2_; clear hb ho42; obtain ⟨Ao43, co43, eo43⟩ := Kd.R_slice HO370.out; subst eo43) | ((with_reducible refine gate_callee (f := 27) rfl ?_); refine goesL_ (some 71) rfl rfl Try.func27 (by kernel_rfl) rfl #[.slice Ao43 y368.length co43] rfl (by (try simp only [List.map_toArray, List.map_cons, List.map_nil]); first | done | rfl | (simp only [List.length_drop, List.length_take]; rfl)) ?_; (with_reducible refine (extent_Valid.calls kj4 _ _ y368 t371 _ ?side1 ?side2 A37.out).mono ?_); (case side1 => repeat (first | exact (Kd.R_reads' HO370.out).2.2 | (with_reducible refine Kd.C_alloc ?_ _) | (with_reducible refine Kd.C_drewN ?_ _) | (with_reducible refine Kd.C_drew ?_))); (case side2 => exact (Kd.R_reads' HO370.out).2.1); rintro e w44 ⟨rfl, hb⟩; refine ⟨_, rfl, ?_⟩; have n0_ := Aside0.mk (Kd.R_below (by (with_reducible repeat (first | apply Kd.R_alloc | apply Kd.R_drewN | apply Kd.R_drew)); exact HO370.out) hb); have n1_ := Aside0.mk (blk_below (g := gb366) (o := .cells #[.int .i64 a0_0, .int .i64 a0_1, .int .i64 a0_2] 58 (0, 0)) (by (with_reducible repeat (first | refine blk_drewN ?_ _ | refine blk_drew ?_ | refine blk_alloc ?_ _)); exact BK366.out) hb); have n2_ := Aside0.mk (below_step (by repeat (first | (with_reducible first | exact HB.out | apply below_alloc | apply pw_below_drewN | apply below_drew1 | refine below_set ?_ GE366.out) | exact HB.out)) hb); clear HO370; clear BK366; clear HB; have HO370 := n0_; have BK366 := n1_; have HB := n2_; clear n0_ n1_ n2_; (try clear hb); (try clear hb2); (try clear hk); (try clear hi)))
    (try simp only [Act.put, List.setIfInBounds_toArray, List.set_cons_zero, List.set_cons_succ])
    go_cut [9] (fun v9 wc => ∃ (kq : Nat) (x9_38 : Bool), v9 = .bool x9_38 ∧ Aside0 (l08_ExtentLimits.j1 kq a1 a2 t367 x9_38 = some r) ∧ Aside0 (kq ≤ kj4) ∧ Aside0 (wc.heap[gb366]? = some (.cells #[.int .i64 a0_0, .int .i64 a0_1, .int .i64 a0_2] 58 (0, 0))) ∧ Aside0 (Below w.heap.size w wc))
    case first =>
     have H := HC39.out
     clear HC39
     by_cases c45 : a1 ≤ 1048576
     ·rw [if_pos c45] at H
      have c45b0 : decide (a1 ≤ 1048576) = true := decide_eq_true c45
      clear c45
      (first | rw [c45b0] | (simp only [i64_w, i32_w]; rw [c45b0]) | skip)
      by_cases c46 : a2 ≤ 1048576
      ·rw [if_pos c46] at H
       have c46b0 : decide (a2 ≤ 1048576) = true := decide_eq_true c46
       clear c46
       have H' := Aside0.mk H
       clear H
       go_wp2
       go_meet
       case rel => exact ⟨_, (decide ((wrap64 (a1 + a2)) ≤ 1048576)), (by first | rfl | (simp; done) | (simp [*]; done)), H', ⟨by have := HJ4.out; first | omega | exact Nat.le_refl _⟩, ⟨by (with_reducible repeat (first | refine blk_drewN ?_ _ | refine blk_drew ?_ | refine blk_alloc ?_ _)); exact BK366.out⟩, ⟨by repeat (first | (with_reducible first | exact HB.out | apply below_alloc | apply pw_below_drewN | apply below_drew1 | refine below_set ?_ GE366.out) | exact HB.out)⟩⟩
      ·rw [if_neg c46] at H
       have c46b0 : decide (a2 ≤ 1048576) = false := decide_eq_false c46
       clear c46
       have H' := Aside0.mk H
       clear H
       go_wp2
       go_meet
       case rel => exact ⟨_, (false), (by first | rfl | (simp; done) | (simp [*]; done)), H', ⟨by have := HJ4.out; first | omega | exact Nat.le_refl _⟩, ⟨by (with_reducible repeat (first | refine blk_drewN ?_ _ | refine blk_drew ?_ | refine blk_alloc ?_ _)); exact BK366.out⟩, ⟨by repeat (first | (with_reducible first | exact HB.out | apply below_alloc | apply pw_below_drewN | apply below_drew1 | refine below_set ?_ GE366.out) | exact HB.out)⟩⟩
     ·rw [if_neg c45] at H
      have c45b0 : decide (a1 ≤ 1048576) = false := decide_eq_false c45
      clear c45
      (first | rw [c45b0] | (simp only [i64_w, i32_w]; rw [c45b0]) | skip)
      have H' := Aside0.mk H
      clear H
      go_wp2
      go_meet
      case rel => exact ⟨_, (false), (by first | rfl | (simp; done) | (simp [*]; done)), H', ⟨by have := HJ4.out; first | omega | exact Nat.le_refl _⟩, ⟨by (with_reducible repeat (first | refine blk_drewN ?_ _ | refine blk_drew ?_ | refine blk_alloc ?_ _)); exact BK366.out⟩, ⟨by repeat (first | (with_reducible first | exact HB.out | apply below_alloc | apply pw_below_drewN | apply below_drew1 | refine below_set ?_ GE366.out) | exact HB.out)⟩⟩
    case rest =>
     clear HC39
     try clear c1
     try clear c2
     try clear p2
     try clear c3
     try clear c4
     try clear p6
     try clear c7
     try clear c8
     try clear c8b0
     try clear c9
     try clear c9b0
     try clear c10
     try clear c10b0
     try clear c11
     try clear c11b0
     try clear c12
     try clear c12b0
     try clear c13
     try clear c13b0
     try clear c13b1
     try clear c14
     try clear c14b0
     try clear c14b1
     try clear c16
     try clear c16b0
     try clear c16b1
     try clear c17
     try clear c17b0
     try clear c20
     try clear c20b0
     try clear c23
     try clear c23b0
     try clear c23b1
     try clear c24
     try clear c24b0
     try clear c24b1
     try clear c26
     try clear c26b0
     try clear c27
     try clear c29
     try clear c29b0
     try clear c38
     try clear c38b0
     try clear c38b1
     try clear c38b2
     try clear c45
     try clear c45b0
     try clear c46
     try clear c46b0
     try clear hcz15_0
     try clear hcz15_1
     try clear hcz15_2
     try clear hcz18_0
     try clear hcz18_1
     try clear hcz18_2
     try clear hcz19_0
     try clear hcz19_1
     try clear hcz19_2
     try clear hcz21_0
     try clear hcz21_1
     try clear hcz21_2
     try clear hcz22_0
     try clear hcz22_1
     try clear hcz22_2
     try clear hcz25_0
     try clear hcz25_1
     try clear hcz25_2
     try clear hcz27_0
     try clear hcz27_1
     try clear hcz27_2
     try clear hcz28_0
     try clear hcz28_1
     try clear hcz28_2
     try clear hcz30_0
     try clear hcz30_1
     try clear hcz30_2
     try clear hcz31_0
     try clear hcz31_1
     try clear hcz31_2
     try clear hcz32_0
     try clear hcz32_1
     try clear hcz32_2
     try clear hcz33_0
     try clear hcz33_1
     try clear hcz33_2
     try clear hcz34_0
     try clear hcz34_1
     try clear hcz34_2
     try clear hcz35_0
     try clear hcz35_1
     try clear hcz35_2
     try clear hcz36_0
     try clear hcz36_1
     try clear hcz36_2
     try clear hcz40_0
     try clear hcz40_1
     try clear hcz40_2
     try clear hfz15_0
     try clear hfz15_1
     try clear hfz15_2
     try clear hfz18_0
     try clear hfz18_1
     try clear hfz18_2
     try clear hfz19_0
     try clear hfz19_1
     try clear hfz19_2
     try clear hfz21_0
     try clear hfz21_1
     try clear hfz21_2
     try clear hfz22_0
     try clear hfz22_1
     try clear hfz22_2
     try clear hfz25_0
     try clear hfz25_1
     try clear hfz25_2
     try clear hfz27_0
     try clear hfz27_1
     try clear hfz27_2
     try clear hfz28_0
     try clear hfz28_1
     try clear hfz28_2
     try clear hfz30_0
     try clear hfz30_1
     try clear hfz30_2
     try clear hfz31_0
     try clear hfz31_1
     try clear hfz31_2
     try clear hfz32_0
     try clear hfz32_1
     try clear hfz32_2
     try clear hfz33_0
     try clear hfz33_1
     try clear hfz33_2
     try clear hfz34_0
     try clear hfz34_1
     try clear hfz34_2
     try clear hfz35_0
     try clear hfz35_1
     try clear hfz35_2
     try clear hfz36_0
     try clear hfz36_1
     try clear hfz36_2
     try clear hfz40_0
     try clear hfz40_1
     try clear hfz40_2
     try clear p2
     try clear p6
     obtain ⟨kq, x9_38, rfl, HA, HJ38, BK366, HB⟩ := hcut
     cases kq with
     | zero => exact absurd HA.out (by simp [l08_ExtentLimits.j1])
     | succ kj38 =>
      have H := HA.out
      clear HA
      simp only [l08_ExtentLimits.j1] at H
      replace H := Option.bind_eq_some_iff.mp H
      obtain ⟨⟨t372, t375⟩, A470, H⟩ := H
      replace H : ((l08_cut.f ([] : List (S58)) a2).bind fun bt376 => (if a1 < 0 then (l08_ExtentLimits.j2 kj38 a1 a2 t367 x9_38 true t372 t375 bt376.1 bt376.2) else (l08_ExtentLimits.j2 kj38 a1 a2 t367 x9_38 (decide (a2 < 1)) t372 t375 bt376.1 bt376.2))) = some r := H
      have A47 := Aside0.mk A470
      clear A470
      replace H := Option.bind_eq_some_iff.mp H
      obtain ⟨⟨t376, t379⟩, A480, H⟩ := H
      replace H : (if a1 < 0 then (l08_ExtentLimits.j2 kj38 a1 a2 t367 x9_38 true t372 t375 t376 t379) else (l08_ExtentLimits.j2 kj38 a1 a2 t367 x9_38 (decide (a2 < 1)) t372 t375 t376 t379)) = some r := H
      have A48 := Aside0.mk A480
      clear A480
      have HC49 := Aside0.mk H
      clear H
      go_upto_region 7 with (first | ((with_reducible refine gate_callee (f := 20) rfl ?_); refine goesL_ (some 88) rfl rfl Try.func20 (by kernel_rfl) rfl #[.slice none 0 0, .int .i64 a1, .int .i64 1, .int .i64 a2] rfl (by (try simp only [List.map_toArray, List.map_cons, List.map_nil]); first | done | rfl | (simp only [List.length_drop, List.length_take]; rfl)) ?_; (refine (l08_put.calls _ _ ([] : List (S58)) a1 1 a2 t372 t375 _ ?side1 ?side2 A47.out).mono ?_); (case side1 => exact Kd.C_nil _ _); (case side2 => exact Nat.le_refl _); rintro e w50 ⟨v373, rfl, ho0, hb⟩; refine ⟨_, rfl, ?_⟩; have n0_ := Aside0.mk (Kd.R_lower (Kd.R_newB ho0 (g := gb366) (o := .cells #[.int .i64 a0_0, .int .i64 a0_1, .int .i64 a0_2] 58 (0, 0)) (by (with_reducible repeat (first | refine blk_drewN ?_ _ | refine blk_drew ?_ | refine blk_alloc ?_ _)); exact BK366.out)) (below_size (by repeat (first | (with_reducible first | exact HB.out | apply below_alloc | apply pw_below_drewN | apply below_drew1 | refine below_set ?_ GE366.out) | exact HB.out)))); have n1_ := Aside0.mk (blk_below (g := gb366) (o := .cells #[.int .i64 a0_0, .int .i64 a0_1, .int .i64 a0_2] 58 (0, 0)) (by (with_reducible repeat (first | refine blk_drewN ?_ _ | refine blk_drew ?_ | refine blk_alloc ?_ _)); exact BK366.out) hb); have n2_ := Aside0.mk (below_step (by repeat (first | (with_reducible first | exact HB.out | apply below_alloc | apply pw_below_drewN | apply below_drew1 | refine below_set ?_ GE366.out) | exact HB.out)) hb); clear BK366; clear HB; have HO374 := n0_; have BK366 := n1_; have HB := n2_; clear n0_ n1_ n2_; (try clear hb); (try clear hb2); (try clear hk); (try clear hi); (try clear ho0)) | ((with_reducible refine gate_callee (f := 23) rfl ?_); refine goesL_ (some 90) rfl rfl Try.func23 (by kernel_rfl) rfl #[.slice none 0 0, .int .i64 a2] rfl (by (try simp only [List.map_toArray, List.map_cons, List.map_nil]); first | done | rfl | (simp only [List.length_drop, List.length_take]; rfl)) ?_; (refine (l08_cut.calls _ _ ([] : List (S58)) a2 t376 t379 _ ?side1 ?side2 A48.out).mono ?_); (case side1 => exact Kd.C_nil _ _); (case side2 => exact Nat.le_refl _); rintro e w51 ⟨v377, rfl, ho0, hb⟩; refine ⟨_, rfl, ?_⟩; have n0_ := Aside0.mk (Kd.R_elder' (by (with_reducible repeat (first | apply Kd.R_alloc | apply Kd.R_drewN | apply Kd.R_drew)); exact HO374.out) (Kd.R_base ho0) hb); have n1_ := Aside0.mk (Kd.R_lower (Kd.R_newB (Kd.R_new' ho0 (Kd.R_lt (by (with_reducible repeat (first | apply Kd.R_alloc | apply Kd.R_drewN | apply Kd.R_drew)); exact HO374.out))) (g := gb366) (o := .cells #[.int .i64 a0_0, .int .i64 a0_1, .int .i64 a0_2] 58 (0, 0)) (by (with_reducible repeat (first | refine blk_drewN ?_ _ | refine blk_drew ?_ | refine blk_alloc ?_ _)); exact BK366.out)) (below_size (by repeat (first | (with_reducible first | exact HB.out | apply below_alloc | apply pw_below_drewN | apply below_drew1 | refine below_set ?_ GE366.out) | exact HB.out)))); have n2_ := Aside0.mk (blk_below (g := gb366) (o := .cells #[.int .i64 a0_0, .int .i64 a0_1, .int .i64 a0_2] 58 (0, 0)) (by (with_reducible repeat (first | refine blk_drewN ?_ _ | refine blk_drew ?_ | refine blk_alloc ?_ _)); exact BK366.out) hb); have n3_ := Aside0.mk (below_step (by repeat (first | (with_reducible first | exact HB.out | apply below_alloc | apply pw_below_drewN | apply below_drew1 | refine below_set ?_ GE366.out) | exact HB.out)) hb); clear HO374; clear BK366; clear HB; have HO374 := n0_; have HO378 := n1_; have BK366 := n2_; have HB := n3_; clear n0_ n1_ n2_ n3_; (try clear hb); (try clear hb2); (try clear hk); (try clear hi); (try clear ho0)) | ((with_reducible refine gate_dst (N := 10) rfl ?_); (try (refine gate_guard (by rfl) ?_; dsimp only)); refine box_event ?hg (N := 10) ?hd (cs := #[.slice none 0 0, .int .i64 0]) (t := 40) ?hr ?_; (case hd => rfl); (case hg => rfl); (case hr => first | (go_simp; done) | (go_simp; rfl)); intro gb380 hg w52 hbox hb; have n0_ := Aside0.mk (Kd.R_below (by (with_reducible repeat (first | apply Kd.R_alloc | apply Kd.R_drewN | apply Kd.R_drew)); exact HO374.out) hb); have n1_ := Aside0.mk (Kd.R_below (by (with_reducible repeat (first | apply Kd.R_alloc | apply Kd.R_drewN | apply Kd.R_drew)); exact HO378.out) hb); have n2_ := Aside0.mk (blk_below (g := gb366) (o := .cells #[.int .i64 a0_0, .int .i64 a0_1, .int .i64 a0_2] 58 (0, 0)) (by (with_reducible repeat (first | refine blk_drewN ?_ _ | refine blk_drew ?_ | refine blk_alloc ?_ _)); exact BK366.out) hb); have n3_ := Aside0.mk (below_step (by repeat (first | (with_reducible first | exact HB.out | apply below_alloc | apply pw_below_drewN | apply below_drew1 | refine below_set ?_ GE366.out) | exact HB.out)) hb); have n4_ := Aside0.mk (hbox); have n5_ := Aside0.mk ((by rw [hg]; exact (below_size (by repeat (first | (with_reducible first | exact HB.out | apply below_alloc | apply pw_below_drewN | apply below_drew1 | refine below_set ?_ GE366.out) | exact HB.out))) : w.heap.size ≤ gb380)); have n6_ := Aside0.mk ((by rw [hg]; exact (below_size (by repeat (first | (with_reducible first | exact HB.out | apply below_alloc | apply pw_below_drewN | apply below_drew1 | refine below_set ?_ GE366.out) | exact HB.out))) : w.heap.size ≤ gb380)); have n7_ := Aside0.mk ((by rw [hg]; exact Nat.ne_of_lt (blk_lt (g := gb366) (o := .cells #[.int .i64 a0_0, .int .i64 a0_1, .int .i64 a0_2] 58 (0, 0)) (by (with_reducible repeat (first | refine blk_drewN ?_ _ | refine blk_drew ?_ | refine blk_alloc ?_ _)); exact BK366.out)) : gb366 ≠ gb380)); have n8_ := Aside0.mk ((by rw [hg]; exact Nat.ne_of_gt (blk_lt (g := gb366) (o := .cells #[.int .i64 a0_0, .int .i64 a0_1, .int .i64 a0_2] 58 (0, 0)) (by (with_reducible repeat (first | refine blk_drewN ?_ _ | refine blk_drew ?_ | refine blk_alloc ?_ _)); exact BK366.out)) : gb380 ≠ gb366)); clear HO374; clear HO378; clear BK366; clear HB; have HO374 := n0_; have HO378 := n1_; have BK366 := n2_; have HB := n3_; have BK380 := n4_; have GW380 := n5_; have GE380 := n6_; have NB366_380 := n7_; have NB380_366 := n8_; clear n0_ n1_ n2_ n3_ n4_ n5_ n6_ n7_ n8_; clear hb hbox hg) | ((with_reducible refine gate_dst (N := 11) rfl ?_); (try (refine gate_guard (by rfl) ?_; dsimp only)); refine box_event ?hg (N := 11) ?hd (cs := #[.slice none 0 0, .int .i64 0]) (t := 40) ?hr ?_; (case hd => rfl); (case hg => rfl); (case hr => first | (go_simp; done) | (go_simp; rfl)); intro gb381 hg w53 hbox hb; have n0_ := Aside0.mk (Kd.R_below (by (with_reducible repeat (first | apply Kd.R_alloc | apply Kd.R_drewN | apply Kd.R_drew)); exact HO374.out) hb); have n1_ := Aside0.mk (Kd.R_below (by (with_reducible repeat (first | apply Kd.R_alloc | apply Kd.R_drewN | apply Kd.R_drew)); exact HO378.out) hb); have n2_ := Aside0.mk (blk_below (g := gb366) (o := .cells #[.int .i64 a0_0, .int .i64 a0_1, .int .i64 a0_2] 58 (0, 0)) (by (with_reducible repeat (first | refine blk_drewN ?_ _ | refine blk_drew ?_ | refine blk_alloc ?_ _)); exact BK366.out) hb); have n3_ := Aside0.mk (blk_below (g := gb380) (o := .cells #[.slice none 0 0, .int .i64 0] 40 (0, 0)) (by (with_reducible repeat (first | refine blk_drewN ?_ _ | refine blk_drew ?_ | refine blk_alloc ?_ _)); exact BK380.out) hb); have n4_ := Aside0.mk (below_step (by repeat (first | (with_reducible first | exact HB.out | apply below_alloc | apply pw_below_drewN | apply below_drew1 | refine below_set ?_ GE366.out | refine below_set ?_ GE380.out) | exact HB.out)) hb); have n5_ := Aside0.mk (hbox); have n6_ := Aside0.mk ((by rw [hg]; exact (below_size (by repeat (first | (with_reducible first | exact HB.out | apply below_alloc | apply pw_below_drewN | apply below_drew1 | refine below_set ?_ GE366.out | refine below_set ?_ GE380.out) | exact HB.out))) : w.heap.size ≤ gb381)); have n7_ := Aside0.mk ((by rw [hg]; exact (below_size (by repeat (first | (with_reducible first | exact HB.out | apply below_alloc | apply pw_below_drewN | apply below_drew1 | refine below_set ?_ GE366.out | refine below_set ?_ GE380.out) | exact HB.out))) : w.heap.size ≤ gb381)); have n8_ := Aside0.mk ((by rw [hg]; exact Nat.ne_of_lt (blk_lt (g := gb366) (o := .cells #[.int .i64 a0_0, .int .i64 a0_1, .int .i64 a0_2] 58 (0, 0)) (by (with_reducible repeat (first | refine blk_drewN ?_ _ | refine blk_drew ?_ | refine blk_alloc ?_ _)); exact BK366.out)) : gb366 ≠ gb381)); have n9_ := Aside0.mk ((by rw [hg]; exact Nat.ne_of_gt (blk_lt (g := gb366) (o := .cells #[.int .i64 a0_0, .int .i64 a0_1, .int .i64 a0_2] 58 (0, 0)) (by (with_reducible repeat (first | refine blk_drewN ?_ _ | refine blk_drew ?_ | refine blk_alloc ?_ _)); exact BK366.out)) : gb381 ≠ gb366)); have n10_ := Aside0.mk ((by rw [hg]; exact Nat.ne_of_lt (blk_lt (g := gb380) (o := .cells #[.slice none 0 0, .int .i64 0] 40 (0, 0)) (by (with_reducible repeat (first | refine blk_drewN ?_ _ | refine blk_drew ?_ | refine blk_alloc ?_ _)); exact BK380.out)) : gb380 ≠ gb381)); have n11_ := Aside0.mk ((by rw [hg]; exact Nat.ne_of_gt (blk_lt (g := gb380) (o := .cells #[.slice none 0 0, .int .i64 0] 40 (0, 0)) (by (with_reducible repeat (first | refine blk_drewN ?_ _ | refine blk_drew ?_ | refine blk_alloc ?_ _)); exact BK380.out)) : gb381 ≠ gb380)); clear HO374; clear HO378; clear BK366; clear BK380; clear HB; have HO374 := n0_; have HO378 := n1_; have BK366 := n2_; have BK380 := n3_; have HB := n4_; have BK381 := n5_; have GW381 := n6_; have GE381 := n7_; have NB366_381 := n8_; have NB381_366 := n9_; have NB380_381 := n10_; have NB381_380 := n11_; clear n0_ n1_ n2_ n3_ n4_ n5_ n6_ n7_ n8_ n9_ n10_ n11_; clear hb hbox hg; obtain ⟨Ao54, co54, eo54⟩ := Kd.R_slice HO374.out; subst eo54; have hnb55 := NB380_366.out; have hnc55 := NB366_380.out; have hnb56 := NB380_381.out; have hnc56 := NB381_380.out; have hcz57_0 : w53.cell? ⟨gb380, 0, none⟩ = some (.slice none 0 0) := (blk_cell BK380.out 0).trans rfl; have hcz57_1 : w53.cell? ⟨gb380, 1, none⟩ = some (.int .i64 0) := (blk_cell BK380.out 1).trans rfl; have hfz57_0 := blk_frozen BK380.out 0; have hfz57_1 := blk_frozen BK380.out 1; obtain ⟨Ao58, co58, eo58⟩ := Kd.R_slice HO378.out; subst eo58; have hnb59 := NB381_366.out; have hnc59 := NB366_381.out; have hcz60_0 : w53.cell? ⟨gb381, 0, none⟩ = some (.slice none 0 0) := (blk_cell BK381.out 0).trans rfl; have hcz60_1 : w53.cell? ⟨gb381, 1, none⟩ = some (.int .i64 0) := (blk_cell BK381.out 1).trans rfl; have hfz60_0 := blk_frozen BK381.out 0; have hfz60_1 := blk_frozen BK381.out 1))
      (try simp only [Act.put, List.setIfInBounds_toArray, List.set_cons_zero, List.set_cons_succ])
      go_cut [96] (fun v96 wc => ∃ (kq : Nat) (x96_48 : Bool), v96 = .bool x96_48 ∧ Aside0 (l08_ExtentLimits.j2 kq a1 a2 t367 x9_38 x96_48 t372 t375 t376 t379 = some r) ∧ Aside0 (kq ≤ kj38) ∧ Aside0 (Kd.R k58 58 wc w.heap.size (fun k_ => some k_ ≠ ((.slice Ao58 t376.length co58) : Value).ownBlock ∧ k_ ≠ gb366) (.slice Ao54 t372.length co54) t372) ∧ Aside0 (Kd.R k58 58 wc w.heap.size (fun k_ => some k_ ≠ ((.slice Ao54 t372.length co54) : Value).ownBlock ∧ k_ ≠ gb366) (.slice Ao58 t376.length co58) t376) ∧ Aside0 (wc.heap[gb366]? = some (.cells #[.int .i64 a0_0, .int .i64 a0_1, .int .i64 a0_2] 58 (0, 0))) ∧ Aside0 (wc.heap[gb380]? = some (.cells #[(.slice Ao54 t372.length co54), .int .i64 t375] 40 (0, 0))) ∧ Aside0 (wc.heap[gb381]? = some (.cells #[(.slice Ao58 t376.length co58), .int .i64 t379] 40 (0, 0))) ∧ Aside0 (Below w.heap.size w wc))
      case first =>
       have H := HC49.out
       clear HC49
       by_cases c61 : a1 < 0
       ·rw [if_pos c61] at H
        have c61b0 : decide (a1 < 0) = true := decide_eq_true c61
        clear c61
        (first | rw [c61b0] | (simp only [i64_w, i32_w]; rw [c61b0]) | skip)
        have H' := Aside0.mk H
        clear H
        go_wp2
        go_meet
        case rel => exact ⟨_, (true), (by first | rfl | (simp; done) | (simp [*]; done)), H', ⟨by have := HJ4.out; have := HJ38.out; first | omega | exact Nat.le_refl _⟩, ⟨by (with_reducible repeat (first | apply Kd.R_alloc | apply Kd.R_drewN | apply Kd.R_drew)); exact Kd.R_mono (Kd.R_far (p := ⟨gb381, 1, none⟩) (Kd.R_far (p := ⟨gb381, 0, none⟩) (Kd.R_far (p := ⟨gb380, 1, none⟩) (Kd.R_far (p := ⟨gb380, 0, none⟩) (Kd.R_types (Kd.R_types HO374.out BK380.out (by decide)) BK381.out (by decide)) (fun _ hk => hk.1.2) (.slice Ao54 t372.length co54)) (fun _ hk => hk.1.2) (.int .i64 t375)) (fun _ hk => hk.2) (.slice Ao58 t376.length co58)) (fun _ hk => hk.2) (.int .i64 t379)) (fun _ hk => ⟨hk.1.1.2, hk.1.1.1.2⟩)⟩, ⟨by (with_reducible repeat (first | apply Kd.R_alloc | apply Kd.R_drewN | apply Kd.R_drew)); exact Kd.R_mono (Kd.R_far (p := ⟨gb381, 1, none⟩) (Kd.R_far (p := ⟨gb381, 0, none⟩) (Kd.R_far (p := ⟨gb380, 1, none⟩) (Kd.R_far (p := ⟨gb380, 0, none⟩) (Kd.R_types (Kd.R_types HO378.out BK380.out (by decide)) BK381.out (by decide)) (fun _ hk => hk.1.2) (.slice Ao54 t372.length co54)) (fun _ hk => hk.1.2) (.int .i64 t375)) (fun _ hk => hk.2) (.slice Ao58 t376.length co58)) (fun _ hk => hk.2) (.int .i64 t379)) (fun _ hk => ⟨hk.1.1.1.2, hk.1.1.2⟩)⟩, ⟨by (with_reducible repeat (first | refine blk_drewN ?_ _ | refine blk_drew ?_ | refine blk_alloc ?_ _)); refine blk_far ?_ NB366_381.out _; (with_reducible repeat (first | refine blk_drewN ?_ _ | refine blk_drew ?_ | refine blk_alloc ?_ _)); refine blk_far ?_ NB366_381.out _; (with_reducible repeat (first | refine blk_drewN ?_ _ | refine blk_drew ?_ | refine blk_alloc ?_ _)); refine blk_far ?_ NB366_380.out _; (with_reducible repeat (first | refine blk_drewN ?_ _ | refine blk_drew ?_ | refine blk_alloc ?_ _)); refine blk_far ?_ NB366_380.out _; (with_reducible repeat (first | refine blk_drewN ?_ _ | refine blk_drew ?_ | refine blk_alloc ?_ _)); exact BK366.out⟩, ⟨by (with_reducible repeat (first | refine blk_drewN ?_ _ | refine blk_drew ?_ | refine blk_alloc ?_ _)); refine blk_far ?_ NB380_381.out _; (with_reducible repeat (first | refine blk_drewN ?_ _ | refine blk_drew ?_ | refine blk_alloc ?_ _)); refine blk_far ?_ NB380_381.out _; (with_reducible repeat (first | refine blk_drewN ?_ _ | refine blk_drew ?_ | refine blk_alloc ?_ _)); refine blk_put (cs := #[.slice Ao54 t372.length co54, .int .i64 0]) ?_ 1 _ rfl; (with_reducible repeat (first | refine blk_drewN ?_ _ | refine blk_drew ?_ | refine blk_alloc ?_ _)); refine blk_put (cs := #[.slice none 0 0, .int .i64 0]) ?_ 0 _ rfl; (with_reducible repeat (first | refine blk_drewN ?_ _ | refine blk_drew ?_ | refine blk_alloc ?_ _)); exact BK380.out⟩, ⟨by (with_reducible repeat (first | refine blk_drewN ?_ _ | refine blk_drew ?_ | refine blk_alloc ?_ _)); refine blk_put (cs := #[.slice Ao58 t376.length co58, .int .i64 0]) ?_ 1 _ rfl; (with_reducible repeat (first | refine blk_drewN ?_ _ | refine blk_drew ?_ | refine blk_alloc ?_ _)); refine blk_put (cs := #[.slice none 0 0, .int .i64 0]) ?_ 0 _ rfl; (with_reducible repeat (first | refine blk_drewN ?_ _ | refine blk_drew ?_ | refine blk_alloc ?_ _)); refine blk_far ?_ NB381_380.out _; (with_reducible repeat (first | refine blk_drewN ?_ _ | refine blk_drew ?_ | refine blk_alloc ?_ _)); refine blk_far ?_ NB381_380.out _; (with_reducible repeat (first | refine blk_drewN ?_ _ | refine blk_drew ?_ | refine blk_alloc ?_ _)); exact BK381.out⟩, ⟨by repeat (first | (with_reducible first | exact HB.out | apply below_alloc | apply pw_below_drewN | apply below_drew1 | refine below_set ?_ GE366.out | refine below_set ?_ GE380.out | refine below_set ?_ GE381.out) | exact HB.out)⟩⟩
       ·rw [if_neg c61] at H
        have c61b0 : decide (a1 < 0) = false := decide_eq_false c61
        clear c61
        (first | rw [c61b0] | (simp only [i64_w, i32_w]; rw [c61b0]) | skip)
        have H' := Aside0.mk H
        clear H
        go_wp2
        go_meet
        case rel => exact ⟨_, (decide (a2 < 1)), (by first | rfl | (simp; done) | (simp [*]; done)), H', ⟨by have := HJ4.out; have := HJ38.out; first | omega | exact Nat.le_refl _⟩, ⟨by (with_reducible repeat (first | apply Kd.R_alloc | apply Kd.R_drewN | apply Kd.R_drew)); exact Kd.R_mono (Kd.R_far (p := ⟨gb381, 1, none⟩) (Kd.R_far (p := ⟨gb381, 0, none⟩) (Kd.R_far (p := ⟨gb380, 1, none⟩) (Kd.R_far (p := ⟨gb380, 0, none⟩) (Kd.R_types (Kd.R_types HO374.out BK380.out (by decide)) BK381.out (by decide)) (fun _ hk => hk.1.2) (.slice Ao54 t372.length co54)) (fun _ hk => hk.1.2) (.int .i64 t375)) (fun _ hk => hk.2) (.slice Ao58 t376.length co58)) (fun _ hk => hk.2) (.int .i64 t379)) (fun _ hk => ⟨hk.1.1.2, hk.1.1.1.2⟩)⟩, ⟨by (with_reducible repeat (first | apply Kd.R_alloc | apply Kd.R_drewN | apply Kd.R_drew)); exact Kd.R_mono (Kd.R_far (p := ⟨gb381, 1, none⟩) (Kd.R_far (p := ⟨gb381, 0, none⟩) (Kd.R_far (p := ⟨gb380, 1, none⟩) (Kd.R_far (p := ⟨gb380, 0, none⟩) (Kd.R_types (Kd.R_types HO378.out BK380.out (by decide)) BK381.out (by decide)) (fun _ hk => hk.1.2) (.slice Ao54 t372.length co54)) (fun _ hk => hk.1.2) (.int .i64 t375)) (fun _ hk => hk.2) (.slice Ao58 t376.length co58)) (fun _ hk => hk.2) (.int .i64 t379)) (fun _ hk => ⟨hk.1.1.1.2, hk.1.1.2⟩)⟩, ⟨by (with_reducible repeat (first | refine blk_drewN ?_ _ | refine blk_drew ?_ | refine blk_alloc ?_ _)); refine blk_far ?_ NB366_381.out _; (with_reducible repeat (first | refine blk_drewN ?_ _ | refine blk_drew ?_ | refine blk_alloc ?_ _)); refine blk_far ?_ NB366_381.out _; (with_reducible repeat (first | refine blk_drewN ?_ _ | refine blk_drew ?_ | refine blk_alloc ?_ _)); refine blk_far ?_ NB366_380.out _; (with_reducible repeat (first | refine blk_drewN ?_ _ | refine blk_drew ?_ | refine blk_alloc ?_ _)); refine blk_far ?_ NB366_380.out _; (with_reducible repeat (first | refine blk_drewN ?_ _ | refine blk_drew ?_ | refine blk_alloc ?_ _)); exact BK366.out⟩, ⟨by (with_reducible repeat (first | refine blk_drewN ?_ _ | refine blk_drew ?_ | refine blk_alloc ?_ _)); refine blk_far ?_ NB380_381.out _; (with_reducible repeat (first | refine blk_drewN ?_ _ | refine blk_drew ?_ | refine blk_alloc ?_ _)); refine blk_far ?_ NB380_381.out _; (with_reducible repeat (first | refine blk_drewN ?_ _ | refine blk_drew ?_ | refine blk_alloc ?_ _)); refine blk_put (cs := #[.slice Ao54 t372.length co54, .int .i64 0]) ?_ 1 _ rfl; (with_reducible repeat (first | refine blk_drewN ?_ _ | refine blk_drew ?_ | refine blk_alloc ?_ _)); refine blk_put (cs := #[.slice none 0 0, .int .i64 0]) ?_ 0 _ rfl; (with_reducible repeat (first | refine blk_drewN ?_ _ | refine blk_drew ?_ | refine blk_alloc ?_ _)); exact BK380.out⟩, ⟨by (with_reducible repeat (first | refine blk_drewN ?_ _ | refine blk_drew ?_ | refine blk_alloc ?_ _)); refine blk_put (cs := #[.slice Ao58 t376.length co58, .int .i64 0]) ?_ 1 _ rfl; (with_reducible repeat (first | refine blk_drewN ?_ _ | refine blk_drew ?_ | refine blk_alloc ?_ _)); refine blk_put (cs := #[.slice none 0 0, .int .i64 0]) ?_ 0 _ rfl; (with_reducible repeat (first | refine blk_drewN ?_ _ | refine blk_drew ?_ | refine blk_alloc ?_ _)); refine blk_far ?_ NB381_380.out _; (with_reducible repeat (first | refine blk_drewN ?_ _ | refine blk_drew ?_ | refine blk_alloc ?_ _)); refine blk_far ?_ NB381_380.out _; (with_reducible repeat (first | refine blk_drewN ?_ _ | refine blk_drew ?_ | refine blk_alloc ?_ _)); exact BK381.out⟩, ⟨by repeat (first | (with_reducible first | exact HB.out | apply below_alloc | apply pw_below_drewN | apply below_drew1 | refine below_set ?_ GE366.out | refine below_set ?_ GE380.out | refine below_set ?_ GE381.out) | exact HB.out)⟩⟩
      case rest =>
       clear HC49
       try clear c1
       try clear c2
       try clear p2
       try clear c3
       try clear c4
       try clear c5
       try clear c6
       try clear p6
       try clear c7
       try clear c8
       try clear c8b0
       try clear c9
       try clear c9b0
       try clear c10
       try clear c10b0
       try clear c11
       try clear c11b0
       try clear c12
       try clear c12b0
       try clear c13
       try clear c13b0
       try clear c13b1
       try clear c14
       try clear c14b0
       try clear c14b1
       try clear c16
       try clear c16b0
       try clear c16b1
       try clear c17
       try clear c17b0
       try clear c20
       try clear c20b0
       try clear c23
       try clear c23b0
       try clear c23b1
       try clear c24
       try clear c24b0
       try clear c24b1
       try clear c26
       try clear c26b0
       try clear c27
       try clear c29
       try clear c29b0
       try clear c38
       try clear c38b0
       try clear c38b1
       try clear c38b2
       try clear c45
       try clear c45b0
       try clear c46
       try clear c46b0
       try clear c55
       try clear c56
       try clear c59
       try clear c61
       try clear c61b0
       try clear hcz15_0
       try clear hcz15_1
       try clear hcz15_2
       try clear hcz18_0
       try clear hcz18_1
       try clear hcz18_2
       try clear hcz19_0
       try clear hcz19_1
       try clear hcz19_2
       try clear hcz21_0
       try clear hcz21_1
       try clear hcz21_2
       try clear hcz22_0
       try clear hcz22_1
       try clear hcz22_2
       try clear hcz25_0
       try clear hcz25_1
       try clear hcz25_2
       try clear hcz27_0
       try clear hcz27_1
       try clear hcz27_2
       try clear hcz28_0
       try clear hcz28_1
       try clear hcz28_2
       try clear hcz30_0
       try clear hcz30_1
       try clear hcz30_2
       try clear hcz31_0
       try clear hcz31_1
       try clear hcz31_2
       try clear hcz32_0
       try clear hcz32_1
       try clear hcz32_2
       try clear hcz33_0
       try clear hcz33_1
       try clear hcz33_2
       try clear hcz34_0
       try clear hcz34_1
       try clear hcz34_2
       try clear hcz35_0
       try clear hcz35_1
       try clear hcz35_2
       try clear hcz36_0
       try clear hcz36_1
       try clear hcz36_2
       try clear hcz40_0
       try clear hcz40_1
       try clear hcz40_2
       try clear hcz57_0
       try clear hcz57_1
       try clear hcz60_0
       try clear hcz60_1
       try clear hfz15_0
       try clear hfz15_1
       try clear hfz15_2
       try clear hfz18_0
       try clear hfz18_1
       try clear hfz18_2
       try clear hfz19_0
       try clear hfz19_1
       try clear hfz19_2
       try clear hfz21_0
       try clear hfz21_1
       try clear hfz21_2
       try clear hfz22_0
       try clear hfz22_1
       try clear hfz22_2
       try clear hfz25_0
       try clear hfz25_1
       try clear hfz25_2
       try clear hfz27_0
       try clear hfz27_1
       try clear hfz27_2
       try clear hfz28_0
       try clear hfz28_1
       try clear hfz28_2
       try clear hfz30_0
       try clear hfz30_1
       try clear hfz30_2
       try clear hfz31_0
       try clear hfz31_1
       try clear hfz31_2
       try clear hfz32_0
       try clear hfz32_1
       try clear hfz32_2
       try clear hfz33_0
       try clear hfz33_1
       try clear hfz33_2
       try clear hfz34_0
       try clear hfz34_1
       try clear hfz34_2
       try clear hfz35_0
       try clear hfz35_1
       try clear hfz35_2
       try clear hfz36_0
       try clear hfz36_1
       try clear hfz36_2
       try clear hfz40_0
       try clear hfz40_1
       try clear hfz40_2
       try clear hfz57_0
       try clear hfz57_1
       try clear hfz60_0
       try clear hfz60_1
       try clear p2
       try clear p6
       obtain ⟨kq, x96_48, rfl, HA, HJ48, HO_381000, HO_382000, BK366, BK380, BK381, HB⟩ := hcut
       cases kq with
       | zero => exact absurd HA.out (by simp [l08_ExtentLimits.j2])
       | succ kj48 =>
        have H := HA.out
        clear HA
        simp only [l08_ExtentLimits.j2] at H
        by_cases c62 : x96_48 = true
        ·subst c62
         have H1 : (if t375 = 1 then (if a2 = 0 then (some t367) else (if t379 = 1 then (some t367) else (if a2 > 0 then (some t367) else (some false)))) else (some false)) = some r := by rw [if_pos rfl] at H; exact H
         clear H
         have H := H1
         clear H1
         by_cases c63 : t375 = 1
         ·rw [if_pos c63] at H
          have c63b0 : (t375 == 1) = true := beq_iff_eq.mpr c63
          have c63b1 : (t375 != 1) = false := bne_eq_false_iff_eq.mpr c63
          clear c63
          by_cases c64 : a2 = 0
          ·rw [if_pos c64] at H
           have c64b0 : (a2 == 0) = true := beq_iff_eq.mpr c64
           have c64b1 : (a2 != 0) = false := bne_eq_false_iff_eq.mpr c64
           clear c64
           clear HLAW
           obtain rfl := Option.some.inj H
           have hnb65 := NB380_366.out
           have hnc65 := NB366_380.out
           have hnb66 := NB380_381.out
           have hnc66 := NB381_380.out
           have hcz67_0 : wc.cell? ⟨gb380, 0, none⟩ = some (.slice Ao54 t372.length co54) := (blk_cell BK380.out 0).trans rfl
           have hcz67_1 : wc.cell? ⟨gb380, 1, none⟩ = some (.int .i64 t375) := (blk_cell BK380.out 1).trans rfl
           have hfz67_0 := blk_frozen BK380.out 0
           have hfz67_1 := blk_frozen BK380.out 1
           go_wp2
           go_ret
           exact ⟨by first | rfl | (simp [errW_none, errW_some] <;> rfl) | (simp [*, errW_none, errW_some] <;> rfl) | (exfalso; simp_all only [aside0_iff, Option.some.injEq, reduceCtorEq]), by repeat (first | (with_reducible first | exact HB.out | apply below_alloc | apply pw_below_drewN | apply below_drew1 | refine below_set ?_ GE366.out | refine below_set ?_ GE380.out | refine below_set ?_ GE381.out) | exact HB.out)⟩
          ·rw [if_neg c64] at H
           have c64b0 : (a2 == 0) = false := beq_eq_false_iff_ne.mpr c64
           have c64b1 : (a2 != 0) = true := bne_iff_ne.mpr c64
           by_cases c68 : t379 = 1
           ·rw [if_pos c68] at H
            have c68b0 : (t379 == 1) = true := beq_iff_eq.mpr c68
            have c68b1 : (t379 != 1) = false := bne_eq_false_iff_eq.mpr c68
            clear c68
            clear HLAW
            obtain rfl := Option.some.inj H
            have hnb69 := NB380_366.out
            have hnc69 := NB366_380.out
            have hnb70 := NB380_381.out
            have hnc70 := NB381_380.out
            have hcz71_0 : wc.cell? ⟨gb380, 0, none⟩ = some (.slice Ao54 t372.length co54) := (blk_cell BK380.out 0).trans rfl
            have hcz71_1 : wc.cell? ⟨gb380, 1, none⟩ = some (.int .i64 t375) := (blk_cell BK380.out 1).trans rfl
            have hfz71_0 := blk_frozen BK380.out 0
            have hfz71_1 := blk_frozen BK380.out 1
            have hnb72 := NB381_366.out
            have hnc72 := NB366_381.out
            have hcz73_0 : wc.cell? ⟨gb381, 0, none⟩ = some (.slice Ao58 t376.length co58) := (blk_cell BK381.out 0).trans rfl
            have hcz73_1 : wc.cell? ⟨gb381, 1, none⟩ = some (.int .i64 t379) := (blk_cell BK381.out 1).trans rfl
            have hfz73_0 := blk_frozen BK381.out 0
            have hfz73_1 := blk_frozen BK381.out 1
            go_wp2
            go_ret
            exact ⟨by first | rfl | (simp [errW_none, errW_some] <;> rfl) | (simp [*, errW_none, errW_some] <;> rfl) | (exfalso; simp_all only [aside0_iff, Option.some.injEq, reduceCtorEq]), by repeat (first | (with_reducible first | exact HB.out | apply below_alloc | apply pw_below_drewN | apply below_drew1 | refine below_set ?_ GE366.out | refine below_set ?_ GE380.out | refine below_set ?_ GE381.out) | exact HB.out)⟩
           ·rw [if_neg c68] at H
            have c68b0 : (t379 == 1) = false := beq_eq_false_iff_ne.mpr c68
            have c68b1 : (t379 != 1) = true := bne_iff_ne.mpr c68
            by_cases c74 : a2 > 0
            ·rw [if_pos c74] at H
             have c74b0 : decide (0 < a2) = true := decide_eq_true c74
             clear c74
             clear HLAW
             obtain rfl := Option.some.inj H
             have hnb75 := NB380_366.out
             have hnc75 := NB366_380.out
             have hnb76 := NB380_381.out
             have hnc76 := NB381_380.out
             have hcz77_0 : wc.cell? ⟨gb380, 0, none⟩ = some (.slice Ao54 t372.length co54) := (blk_cell BK380.out 0).trans rfl
             have hcz77_1 : wc.cell? ⟨gb380, 1, none⟩ = some (.int .i64 t375) := (blk_cell BK380.out 1).trans rfl
             have hfz77_0 := blk_frozen BK380.out 0
             have hfz77_1 := blk_frozen BK380.out 1
             have hnb78 := NB381_366.out
             have hnc78 := NB366_381.out
             have hcz79_0 : wc.cell? ⟨gb381, 0, none⟩ = some (.slice Ao58 t376.length co58) := (blk_cell BK381.out 0).trans rfl
             have hcz79_1 : wc.cell? ⟨gb381, 1, none⟩ = some (.int .i64 t379) := (blk_cell BK381.out 1).trans rfl
             have hfz79_0 := blk_frozen BK381.out 0
             have hfz79_1 := blk_frozen BK381.out 1
             go_wp2
             go_ret
             exact ⟨by first | rfl | (simp [errW_none, errW_some] <;> rfl) | (simp [*, errW_none, errW_some] <;> rfl) | (exfalso; simp_all only [aside0_iff, Option.some.injEq, reduceCtorEq]), by repeat (first | (with_reducible first | exact HB.out | apply below_alloc | apply pw_below_drewN | apply below_drew1 | refine below_set ?_ GE366.out | refine below_set ?_ GE380.out | refine below_set ?_ GE381.out) | exact HB.out)⟩
            ·rw [if_neg c74] at H
             have c74b0 : decide (0 < a2) = false := decide_eq_false c74
             clear c74
             exact absurd ((Option.some.inj H).trans HLAW.out) (by decide)
         ·rw [if_neg c63] at H
          have c63b0 : (t375 == 1) = false := beq_eq_false_iff_ne.mpr c63
          have c63b1 : (t375 != 1) = true := bne_iff_ne.mpr c63
          exact absurd ((Option.some.inj H).trans HLAW.out) (by decide)
        ·replace c62 := Bool.eq_false_iff.mpr c62
         subst c62
         have H1 : (if x9_38 = true then (if t375 = 0 then ((r08_Valid.f kj48 t372).bind fun t382 => (if t382 = true then ((r08_Size.f kj48 t372).bind fun t383 => (if t383 = (wrap64 (a1 + a2)) then (if t379 = 0 then ((r08_Size.f kj48 t376).bind fun t384 => (if t384 = a2 then (some t367) else (some false))) else (some false)) else (some false))) else (some false))) else (some false)) else (if t375 = 2 then (if (t372.length : Int) = 0 then (if ((t379 == 0) == (decide (a2 ≤ 1048576))) = true then (some t367) else (some false)) else (some false)) else (some false))) = some r := by rw [if_neg (show ¬ (false = true) by decide)] at H; exact H
         clear H
         have H := H1
         clear H1
         by_cases c80 : x9_38 = true
         ·subst c80
          have H1 : (if t375 = 0 then ((r08_Valid.f kj48 t372).bind fun t382 => (if t382 = true then ((r08_Size.f kj48 t372).bind fun t383 => (if t383 = (wrap64 (a1 + a2)) then (if t379 = 0 then ((r08_Size.f kj48 t376).bind fun t384 => (if t384 = a2 then (some t367) else (some false))) else (some false)) else (some false))) else (some false))) else (some false)) = some r := by rw [if_pos rfl] at H; exact H
          clear H
          have H := H1
          clear H1
          by_cases c81 : t375 = 0
          ·rw [if_pos c81] at H
           have c81b0 : (t375 == 0) = true := beq_iff_eq.mpr c81
           have c81b1 : (t375 != 0) = false := bne_eq_false_iff_eq.mpr c81
           clear c81
           replace H := Option.bind_eq_some_iff.mp H
           obtain ⟨t382, A820, H⟩ := H
           replace H : (if t382 = true then ((r08_Size.f kj48 t372).bind fun t383 => (if t383 = (wrap64 (a1 + a2)) then (if t379 = 0 then ((r08_Size.f kj48 t376).bind fun t384 => (if t384 = a2 then (some t367) else (some false))) else (some false)) else (some false))) else (some false)) = some r := H
           have A82 := Aside0.mk A820
           clear A820
           by_cases c83 : t382 = true
           ·subst c83
            have H1 : ((r08_Size.f kj48 t372).bind fun t383 => (if t383 = (wrap64 (a1 + a2)) then (if t379 = 0 then ((r08_Size.f kj48 t376).bind fun t384 => (if t384 = a2 then (some t367) else (some false))) else (some false)) else (some false))) = some r := by rw [if_pos rfl] at H; exact H
            clear H
            have H := H1
            clear H1
            replace H := Option.bind_eq_some_iff.mp H
            obtain ⟨t383, A840, H⟩ := H
            replace H : (if t383 = (wrap64 (a1 + a2)) then (if t379 = 0 then ((r08_Size.f kj48 t376).bind fun t384 => (if t384 = a2 then (some t367) else (some false))) else (some false)) else (some false)) = some r := H
            have A84 := Aside0.mk A840
            clear A840
            by_cases c85 : t383 = (wrap64 (a1 + a2))
            ·rw [if_pos c85] at H
             have c85b0 : (t383 == (wrap64 (a1 + a2))) = true := beq_iff_eq.mpr c85
             have c85b1 : (t383 != (wrap64 (a1 + a2))) = false := bne_eq_false_iff_eq.mpr c85
             clear c85
             by_cases c86 : t379 = 0
             ·rw [if_pos c86] at H
              have c86b0 : (t379 == 0) = true := beq_iff_eq.mpr c86
              have c86b1 : (t379 != 0) = false := bne_eq_false_iff_eq.mpr c86
              clear c86
              replace H := Option.bind_eq_some_iff.mp H
              obtain ⟨t384, A870, H⟩ := H
              replace H : (if t384 = a2 then (some t367) else (some false)) = some r := H
              have A87 := Aside0.mk A870
              clear A870
              by_cases c88 : t384 = a2
              ·rw [if_pos c88] at H
               have c88b0 : (t384 == a2) = true := beq_iff_eq.mpr c88
               have c88b1 : (t384 != a2) = false := bne_eq_false_iff_eq.mpr c88
               clear c88
               clear HLAW
               obtain rfl := Option.some.inj H
               have hnb89 := NB380_366.out
               have hnc89 := NB366_380.out
               have hnb90 := NB380_381.out
               have hnc90 := NB381_380.out
               have hcz91_0 : wc.cell? ⟨gb380, 0, none⟩ = some (.slice Ao54 t372.length co54) := (blk_cell BK380.out 0).trans rfl
               have hcz91_1 : wc.cell? ⟨gb380, 1, none⟩ = some (.int .i64 t375) := (blk_cell BK380.out 1).trans rfl
               have hfz91_0 := blk_frozen BK380.out 0
               have hfz91_1 := blk_frozen BK380.out 1
               go_wp2_with (first | (go_at_call 14; (with_reducible refine (r08_Valid.calls kj48 _ _ t372 true _ ?side1 ?side2 A82.out).mono ?_); (case side1 => repeat (first | exact (Kd.R_reads' HO_381000.out).2.2 | (with_reducible refine Kd.C_alloc ?_ _) | (with_reducible refine Kd.C_drewN ?_ _) | (with_reducible refine Kd.C_drew ?_))); (case side2 => exact (Kd.R_reads' HO_381000.out).2.1); rintro e w92 ⟨rfl, hb⟩; have n0_ := Aside0.mk (Kd.R_below (by (with_reducible repeat (first | apply Kd.R_alloc | apply Kd.R_drewN | apply Kd.R_drew)); exact HO_381000.out) hb); have n1_ := Aside0.mk (Kd.R_below (by (with_reducible repeat (first | apply Kd.R_alloc | apply Kd.R_drewN | apply Kd.R_drew)); exact HO_382000.out) hb); have n2_ := Aside0.mk (blk_below (g := gb366) (o := .cells #[.int .i64 a0_0, .int .i64 a0_1, .int .i64 a0_2] 58 (0, 0)) (by (with_reducible repeat (first | refine blk_drewN ?_ _ | refine blk_drew ?_ | refine blk_alloc ?_ _)); exact BK366.out) hb); have n3_ := Aside0.mk (blk_below (g := gb380) (o := .cells #[.slice Ao54 t372.length co54, .int .i64 t375] 40 (0, 0)) (by (with_reducible repeat (first | refine blk_drewN ?_ _ | refine blk_drew ?_ | refine blk_alloc ?_ _)); exact BK380.out) hb); have n4_ := Aside0.mk (blk_below (g := gb381) (o := .cells #[.slice Ao58 t376.length co58, .int .i64 t379] 40 (0, 0)) (by (with_reducible repeat (first | refine blk_drewN ?_ _ | refine blk_drew ?_ | refine blk_alloc ?_ _)); exact BK381.out) hb); have n5_ := Aside0.mk (below_step (by repeat (first | (with_reducible first | exact HB.out | apply below_alloc | apply pw_below_drewN | apply below_drew1 | refine below_set ?_ GE366.out | refine below_set ?_ GE380.out | refine below_set ?_ GE381.out) | exact HB.out)) hb); clear HO_381000; clear HO_382000; clear BK366; clear BK380; clear BK381; clear HB; have HO_381000 := n0_; have HO_382000 := n1_; have BK366 := n2_; have BK380 := n3_; have BK381 := n4_; have HB := n5_; clear n0_ n1_ n2_ n3_ n4_ n5_; (try clear hb); (try clear hb2); (try clear hk); (try clear hi); have hcz93_0 : w92.cell? ⟨gb380, 0, none⟩ = some (.slice Ao54 t372.length co54) := (blk_cell BK380.out 0).trans rfl; have hcz93_1 : w92.cell? ⟨gb380, 1, none⟩ = some (.int .i64 t375) := (blk_cell BK380.out 1).trans rfl; have hfz93_0 := blk_frozen BK380.out 0; have hfz93_1 := blk_frozen BK380.out 1) | (go_at_call 15; (with_reducible refine (r08_Size.calls kj48 _ _ t372 t383 _ ?side1 ?side2 A84.out).mono ?_); (case side1 => repeat (first | exact (Kd.R_reads' HO_381000.out).2.2 | (with_reducible refine Kd.C_alloc ?_ _) | (with_reducible refine Kd.C_drewN ?_ _) | (with_reducible refine Kd.C_drew ?_))); (case side2 => exact (Kd.R_reads' HO_381000.out).2.1); rintro e w' ⟨rfl, ⟨nd, rfl⟩⟩; have hnb94 := NB381_366.out; have hnc94 := NB366_381.out; have hcz95_0 : w92.cell? ⟨gb381, 0, none⟩ = some (.slice Ao58 t376.length co58) := (blk_cell BK381.out 0).trans rfl; have hcz95_1 : w92.cell? ⟨gb381, 1, none⟩ = some (.int .i64 t379) := (blk_cell BK381.out 1).trans rfl; have hfz95_0 := blk_frozen BK381.out 0; have hfz95_1 := blk_frozen BK381.out 1) | (go_at_call 15; (with_reducible refine (r08_Size.calls kj48 _ _ t376 t384 _ ?side1 ?side2 A87.out).mono ?_); (case side1 => repeat (first | exact (Kd.R_reads' HO_382000.out).2.2 | (with_reducible refine Kd.C_alloc ?_ _) | (with_reducible refine Kd.C_drewN ?_ _) | (with_reducible refine Kd.C_drew ?_))); (case side2 => exact (Kd.R_reads' HO_382000.out).2.1); rintro e w' ⟨rfl, ⟨nd, rfl⟩⟩))
               go_ret
               exact ⟨by first | rfl | (simp [errW_none, errW_some] <;> rfl) | (simp [*, errW_none, errW_some] <;> rfl) | (exfalso; simp_all only [aside0_iff, Option.some.injEq, reduceCtorEq]), by repeat (first | (with_reducible first | exact HB.out | apply below_alloc | apply pw_below_drewN | apply below_drew1 | refine below_set ?_ GE366.out | refine below_set ?_ GE380.out | refine below_set ?_ GE381.out) | exact HB.out)⟩
              ·rw [if_neg c88] at H
               have c88b0 : (t384 == a2) = false := beq_eq_false_iff_ne.mpr c88
               have c88b1 : (t384 != a2) = true := bne_iff_ne.mpr c88
               exact absurd ((Option.some.inj H).trans HLAW.out) (by decide)
             ·rw [if_neg c86] at H
              have c86b0 : (t379 == 0) = false := beq_eq_false_iff_ne.mpr c86
              have c86b1 : (t379 != 0) = true := bne_iff_ne.mpr c86
              exact absurd ((Option.some.inj H).trans HLAW.out) (by decide)
            ·rw [if_neg c85] at H
             have c85b0 : (t383 == (wrap64 (a1 + a2))) = false := beq_eq_false_iff_ne.mpr c85
             have c85b1 : (t383 != (wrap64 (a1 + a2))) = true := bne_iff_ne.mpr c85
             exact absurd ((Option.some.inj H).trans HLAW.out) (by decide)
           ·replace c83 := Bool.eq_false_iff.mpr c83
            subst c83
            have H1 : (some false) = some r := by rw [if_neg (show ¬ (false = true) by decide)] at H; exact H
            clear H
            have H := H1
            clear H1
            exact absurd ((Option.some.inj H).trans HLAW.out) (by decide)
          ·rw [if_neg c81] at H
           have c81b0 : (t375 == 0) = false := beq_eq_false_iff_ne.mpr c81
           have c81b1 : (t375 != 0) = true := bne_iff_ne.mpr c81
           exact absurd ((Option.some.inj H).trans HLAW.out) (by decide)
         ·replace c80 := Bool.eq_false_iff.mpr c80
          subst c80
          have H1 : (if t375 = 2 then (if (t372.length : Int) = 0 then (if ((t379 == 0) == (decide (a2 ≤ 1048576))) = true then (some t367) else (some false)) else (some false)) else (some false)) = some r := by rw [if_neg (show ¬ (false = true) by decide)] at H; exact H
          clear H
          have H := H1
          clear H1
          by_cases c96 : t375 = 2
          ·rw [if_pos c96] at H
           have c96b0 : (t375 == 2) = true := beq_iff_eq.mpr c96
           have c96b1 : (t375 != 2) = false := bne_eq_false_iff_eq.mpr c96
           clear c96
           by_cases c97 : (t372.length : Int) = 0
           ·rw [if_pos c97] at H
            have c97b0 : ((t372.length : Int) == 0) = true := beq_iff_eq.mpr c97
            have c97b1 : ((t372.length : Int) != 0) = false := bne_eq_false_iff_eq.mpr c97
            clear c97
            by_cases c98 : ((t379 == 0) == (decide (a2 ≤ 1048576))) = true
            ·rw [if_pos c98] at H
             have c98b0 : ((t379 == 0) == (decide (a2 ≤ 1048576))) = true := c98
             (try (have c98b1 : decide ((t379 == 0) = (decide (a2 ≤ 1048576))) = true := by simpa using c98))
             (try (have c98b2 : ((t379 == 0) == (decide (a2 ≤ 1048576))) = true := by simpa using c98))
             clear c98
             clear HLAW
             obtain rfl := Option.some.inj H
             have hnb99 := NB380_366.out
             have hnc99 := NB366_380.out
             have hnb100 := NB380_381.out
             have hnc100 := NB381_380.out
             have hcz101_0 : wc.cell? ⟨gb380, 0, none⟩ = some (.slice Ao54 t372.length co54) := (blk_cell BK380.out 0).trans rfl
             have hcz101_1 : wc.cell? ⟨gb380, 1, none⟩ = some (.int .i64 t375) := (blk_cell BK380.out 1).trans rfl
             have hfz101_0 := blk_frozen BK380.out 0
             have hfz101_1 := blk_frozen BK380.out 1
             have hnb102 := NB381_366.out
             have hnc102 := NB366_381.out
             have hcz103_0 : wc.cell? ⟨gb381, 0, none⟩ = some (.slice Ao58 t376.length co58) := (blk_cell BK381.out 0).trans rfl
             have hcz103_1 : wc.cell? ⟨gb381, 1, none⟩ = some (.int .i64 t379) := (blk_cell BK381.out 1).trans rfl
             have hfz103_0 := blk_frozen BK381.out 0
             have hfz103_1 := blk_frozen BK381.out 1
             go_wp2
             go_ret
             exact ⟨by first | rfl | (simp [errW_none, errW_some] <;> rfl) | (simp [*, errW_none, errW_some] <;> rfl) | (exfalso; simp_all only [aside0_iff, Option.some.injEq, reduceCtorEq]), by repeat (first | (with_reducible first | exact HB.out | apply below_alloc | apply pw_below_drewN | apply below_drew1 | refine below_set ?_ GE366.out | refine below_set ?_ GE380.out | refine below_set ?_ GE381.out) | exact HB.out)⟩
            ·rw [if_neg c98] at H
             have c98b0 : ((t379 == 0) == (decide (a2 ≤ 1048576))) = false := by simpa using c98
             (try (have c98b1 : decide ((t379 == 0) = (decide (a2 ≤ 1048576))) = false := by simpa using c98))
             (try (have c98b2 : ((t379 == 0) == (decide (a2 ≤ 1048576))) = false := by simpa using c98))
             (try (have c98b3 : ¬ ((t379 == 0) = (decide (a2 ≤ 1048576))) := by simpa using c98))
             clear c98
             exact absurd ((Option.some.inj H).trans HLAW.out) (by decide)
           ·rw [if_neg c97] at H
            have c97b0 : ((t372.length : Int) == 0) = false := beq_eq_false_iff_ne.mpr c97
            have c97b1 : ((t372.length : Int) != 0) = true := bne_iff_ne.mpr c97
            have c97b2 : ¬ (t372 = []) := fun h_ => c97 (by rw [h_]; rfl)
            exact absurd ((Option.some.inj H).trans HLAW.out) (by decide)
          ·rw [if_neg c96] at H
           have c96b0 : (t375 == 2) = false := beq_eq_false_iff_ne.mpr c96
           have c96b1 : (t375 != 2) = true := bne_iff_ne.mpr c96
           exact absurd ((Option.some.inj H).trans HLAW.out) (by decide)

/-- THE ONE PURE STATEMENT of l08_ExtentLimits: yours. -/
def l08_ExtentLimits.Pure : Prop := ∀ (a0_0 : Int) (a0_1 : Int) (a0_2 : Int) (a1 : Int) (a2 : Int), (((Lit.int .i64 a0_0).wf = true) ∧ (((Lit.int .i64 a0_1).wf = true) ∧ ((Lit.int .i64 a0_2).wf = true))) → ((Lit.int .i64 a1).wf = true) → ((Lit.int .i64 a2).wf = true) → ∃ k, l08_ExtentLimits.f k a0_0 a0_1 a0_2 a1 a2 = some true

end Go.Proofs.Ytfhjbhbmbnnimaa.PE
