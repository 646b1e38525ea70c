/- Plain Lean functions with the answers of the Go functions that these laws reach, and proofs that the calls come to them; written by this session's program. -/
import Derived.Test.YtfhjbhbmbnnimaaPEx0
import Derived.Test.YtfhjbhbmbnnimaaPEx3
import Derived.Test.YtfhjbhbmbnnimaaPEx5
import Derived.Test.YtfhjbhbmbnnimaaPEx6
namespace Go.Proofs.Ytfhjbhbmbnnimaa.PE
open Go.RowKit Go.Proofs.YtfhjbhbmbnnimaaW.PrintWords Go.Proofs.YtfhjbhbmbnnimaaW.PrintLast Go.Proofs.YtfhjbhbmbnnimaaW.PrintMore
attribute [local go_sem] max2_int min2_int max_two min_two max_three min_three max_four min_four   -- for this text's walks alone
set_option linter.unusedVariables false
set_option linter.unusedSimpArgs false

/-! ### extent_Valid: function 27 -/
mutual
def extent_Valid.l0 : Nat → List (S58) → Int → List (S58) → Int → Int → Option (Bool)
 | 0, _, _, _, _, _ => none
 | k + 1, x0, x3, x6, x7, x8 => if x8 < x7 then (if 0 ≤ x8 then (if x8 < (x6.length : Int) then ((extent_right.f k ((rd_T58 x6 x8).f0) ((rd_T58 x6 x8).f1) ((rd_T58 x6 x8).f2)).bind fun t131 => (if t131 = true then (if x8 > 0 then (if 0 ≤ (wrap64 (x8 - 1)) then (if (wrap64 (x8 - 1)) < (x0.length : Int) then ((extent_one.f ((rd_T58 x0 (wrap64 (x8 - 1))).f0) ((rd_T58 x0 (wrap64 (x8 - 1))).f1) ((rd_T58 x0 (wrap64 (x8 - 1))).f2) ((rd_T58 x6 x8).f0) ((rd_T58 x6 x8).f1) ((rd_T58 x6 x8).f2)).bind fun t133 => (extent_Valid.j1 k x0 x3 x6 x7 x8 t133 ((rd_T58 x6 x8).f0) ((rd_T58 x6 x8).f1) ((rd_T58 x6 x8).f2))) else (none)) else (none)) else (extent_Valid.j1 k x0 x3 x6 x7 x8 false ((rd_T58 x6 x8).f0) ((rd_T58 x6 x8).f1) ((rd_T58 x6 x8).f2))) else (extent_Valid.j1 k x0 x3 x6 x7 x8 true ((rd_T58 x6 x8).f0) ((rd_T58 x6 x8).f1) ((rd_T58 x6 x8).f2)))) else (none)) else (none)) else (some true)
def extent_Valid.j1 : Nat → List (S58) → Int → List (S58) → Int → Int → Bool → Int → Int → Int → Option (Bool)
 | 0, _, _, _, _, _, _, _, _, _ => none
 | k + 1, x0, x3, x6, x7, x8, x28, x131000, x131001, x131002 => if x28 = true then (some false) else (if (wrap64 (x3 - x131002)) < 0 then (some false) else (extent_Valid.l0 k x0 (wrap64 (x3 - x131002)) x6 x7 (wrap64 (x8 + 1))))
end
def extent_Valid.f (k : Nat) (l0 : List (S58)) : Option (Bool) := extent_Valid.l0 k l0 1048576 l0 (l0.length : Int) 0
theorem extent_Valid.mono_l : ∀ k, (∀ y0 y1 y2 y3 y4, LeO (extent_Valid.l0 k y0 y1 y2 y3 y4) (extent_Valid.l0 (k + 1) y0 y1 y2 y3 y4)) ∧ (∀ y0 y1 y2 y3 y4 y5 y6 y7 y8, LeO (extent_Valid.j1 k y0 y1 y2 y3 y4 y5 y6 y7 y8) (extent_Valid.j1 (k + 1) y0 y1 y2 y3 y4 y5 y6 y7 y8))
 | 0 => ⟨fun _ _ _ _ _ r h => by simp [extent_Valid.l0] at h, fun _ _ _ _ _ _ _ _ _ r h => by simp [extent_Valid.j1] at h⟩
 | k + 1 => by
  obtain ⟨ih0, ih1⟩ := extent_Valid.mono_l k
  refine ⟨?_, ?_⟩
  ·intro y0 y1 y2 y3 y4
   unfold extent_Valid.l0
   repeat' first
   | (with_reducible exact ih0 _ _ _ _ _)
   | (with_reducible exact ih1 _ _ _ _ _ _ _ _ _)
   | (with_reducible exact extent_right.mono _ _ _ _)
   | (with_reducible exact LeO.refl _)
   | (with_reducible exact LeO.none _)
   | (with_reducible refine LeO.ite ?_ ?_)
   | (with_reducible refine LeO.bind ?_ (fun _ => ?_))
   | exact ih0 _ _ _ _ _
   | exact ih1 _ _ _ _ _ _ _ _ _
   | exact extent_right.mono _ _ _ _
   | exact LeO.none _
   | refine LeO.ite ?_ ?_
   | refine LeO.bind ?_ (fun _ => ?_)
  ·intro y0 y1 y2 y3 y4 y5 y6 y7 y8
   unfold extent_Valid.j1
   repeat' first
   | (with_reducible exact ih0 _ _ _ _ _)
   | (with_reducible exact ih1 _ _ _ _ _ _ _ _ _)
   | (with_reducible exact extent_right.mono _ _ _ _)
   | (with_reducible exact LeO.refl _)
   | (with_reducible exact LeO.none _)
   | (with_reducible refine LeO.ite ?_ ?_)
   | (with_reducible refine LeO.bind ?_ (fun _ => ?_))
   | exact ih0 _ _ _ _ _
   | exact ih1 _ _ _ _ _ _ _ _ _
   | exact extent_right.mono _ _ _ _
   | exact LeO.none _
   | refine LeO.ite ?_ ?_
   | refine LeO.bind ?_ (fun _ => ?_)
theorem extent_Valid.mono : ∀ a0 k, LeO (extent_Valid.f k a0) (extent_Valid.f (k + 1) a0) := by
 intro a0 k
 obtain ⟨ih0, ih1⟩ := extent_Valid.mono_l k
 unfold extent_Valid.f
 repeat' first
   | (with_reducible exact ih0 _ _ _ _ _)
   | (with_reducible exact ih1 _ _ _ _ _ _ _ _ _)
   | (with_reducible exact extent_right.mono _ _ _ _)
   | (with_reducible exact LeO.refl _)
   | (with_reducible exact LeO.none _)
   | (with_reducible refine LeO.ite ?_ ?_)
   | (with_reducible refine LeO.bind ?_ (fun _ => ?_))
   | exact ih0 _ _ _ _ _
   | exact ih1 _ _ _ _ _ _ _ _ _
   | exact extent_right.mono _ _ _ _
   | exact LeO.none _
   | refine LeO.ite ?_ ?_
   | refine LeO.bind ?_ (fun _ => ?_)
def extent_Valid.T5 : Bool × List (List Nat × List Nat) := (true, [([], []), ([0], [0]), ([1], [1]), ([2, 1], [2]), ([3], [3]), ([4, 3], [3, 4]), ([5, 3, 3], [3, 5]), ([6], [6]), ([6], [6]), ([8, 6], [6, 8]), ([7, 9, 6], [6, 7, 9]), ([10, 6], [6, 10]), ([6], [6]), ([11, 12, 6, 6], [6, 11, 12]), ([6, 13, 3], [3, 6, 13]), ([3, 14], [3, 14])])
def extent_Valid.B5 : List Nat := [0, 1, 3, 7, 15, 31, 63, 127, 127, 383, 1023, 2047, 127, 8191, 16383, 32767]
theorem extent_Valid.tab5 : rtab .any (opsOf Try.f27 5) = extent_Valid.T5 := by kernel_rfl
theorem extent_Valid.bits5 : waitsOk extent_Valid.T5.2 extent_Valid.B5 = true := by kernel_rfl
set_option maxHeartbeats 8000000 in
set_option maxRecDepth 100000 in
theorem extent_Valid.calls (k : Nat) (A0 : Option Addr) (c0 : Nat) (l0 : List (S58)) (r : Bool) (w : World) (hr0 : Kd.C k58 w A0 l0.length l0) (hc0 : l0.length ≤ c0) (h : extent_Valid.f k l0 = some r) :
  Calls Try.prog 27 #[.slice A0 l0.length c0] w fun e w' => e = .returned (.bool r) ∧ Below w.heap.size w w' := by
 have hu58 := Try.underlying58
 have HR0 := Aside0.mk hr0
 have HC0 := Aside0.mk hc0
 clear hr0 hc0
 have HB := Aside0.mk (Below.refl w.heap.size w)
 have H : (extent_Valid.l0 k l0 1048576 l0 (l0.length : Int) 0) = some r := h
 clear h
 have H' := Aside0.mk H
 clear H
 go_enter Try.func27, Try.ntmps27
 go_wp2
 go_loopg [3, 8] k (fun kq v3 v8 w' => ∃ (x3_1 : Int) (x8_1 : Int), v3 = .int .i64 x3_1 ∧ v8 = .int .i64 x8_1 ∧ Aside0 (extent_Valid.l0 kq l0 x3_1 l0 (l0.length : Int) x8_1 = some r) ∧ Aside0 (kq ≤ k) ∧ Aside0 (Below w.heap.size w w'))
 case atStart => exact ⟨(1048576), (0), (by first | rfl | (simp; done) | (simp [*]; done)), (by first | rfl | (simp; done) | (simp [*]; done)), H', ⟨Nat.le_refl _⟩, ⟨by repeat (first | (with_reducible first | exact HB.out | apply below_alloc | apply pw_below_drewN | apply below_drew1) | exact HB.out)⟩⟩
 case round =>
  clear H'
  obtain ⟨x3_1, x8_1, rfl, rfl, HA, HK1, HB⟩ := hrel
  cases gk with
  | zero => exact absurd HA.out (by simp [extent_Valid.l0])
  | succ k1 =>
   have H := HA.out
   clear HA
   simp only [extent_Valid.l0] at H
   by_cases c2 : x8_1 < (l0.length : Int)
   ·rw [if_pos c2] at H
    have c2b0 : decide (x8_1 < (l0.length : Int)) = true := decide_eq_true c2
    clear c2
    by_cases c3 : 0 ≤ x8_1
    ·rw [if_pos c3] at H
     have c3b0 : decide (0 ≤ x8_1) = true := decide_eq_true c3
     clear c3
     by_cases c4 : x8_1 < (l0.length : Int)
     ·rw [if_pos c4] at H
      have c4b0 : decide (x8_1 < (l0.length : Int)) = true := decide_eq_true c4
      clear c4
      have HC5 := Aside0.mk H
      clear H
      have p129 : 0 ≤ (x8_1 : Int) := of_decide_eq_true (by first | (with_reducible assumption) | assumption)
      have q129 : x8_1 < (l0.length : Int) := of_decide_eq_true (by first | (with_reducible assumption) | assumption)
      obtain ⟨ad129, e129, hx129_0, hx129_1, hx129_2⟩ := at_T58 HR0.out x8_1 p129 q129
      cases e129
      replace hx129_0 := (HB.out.cell (World.block_lt_of_cell? w _ hx129_0)).trans hx129_0
      replace hx129_1 := (HB.out.cell (World.block_lt_of_cell? w _ hx129_1)).trans hx129_1
      replace hx129_2 := (HB.out.cell (World.block_lt_of_cell? w _ hx129_2)).trans hx129_2
      replace p129 := eq_true p129
      replace q129 := eq_true q129
      go_upto_region 5 with (first | ((with_reducible refine gate_dst (N := 5) rfl ?_); refine box_event ?hg (N := 5) ?hd (cs := #[.int .i64 0, .int .i64 0, .int .i64 0]) (t := 58) ?hr ?_; (case hd => rfl); (case hg => rfl); (case hr => first | (go_simp; done) | (go_simp; rfl)); intro gb130 hg w6 hbox hb; have n0_ := Aside0.mk (below_step (by repeat (first | (with_reducible first | exact HB.out | apply below_alloc | apply pw_below_drewN | apply below_drew1) | exact HB.out)) hb); have n1_ := Aside0.mk (hbox); have n2_ := Aside0.mk ((by rw [hg]; exact (below_size (by repeat (first | (with_reducible first | exact HB.out | apply below_alloc | apply pw_below_drewN | apply below_drew1) | exact HB.out))) : w.heap.size ≤ gb130)); have n3_ := Aside0.mk ((by rw [hg]; exact (below_size (by repeat (first | (with_reducible first | exact HB.out | apply below_alloc | apply pw_below_drewN | apply below_drew1) | exact HB.out))) : w.heap.size ≤ gb130)); clear HB; have HB := n0_; have BK130 := n1_; have GW130 := n2_; have GE130 := n3_; clear n0_ n1_ n2_ n3_; clear hb hbox hg; have hcz7_0 : w6.cell? ⟨gb130, 0, none⟩ = some (.int .i64 0) := (blk_cell BK130.out 0).trans rfl; have hcz7_1 : w6.cell? ⟨gb130, 1, none⟩ = some (.int .i64 0) := (blk_cell BK130.out 1).trans rfl; have hcz7_2 : w6.cell? ⟨gb130, 2, none⟩ = some (.int .i64 0) := (blk_cell BK130.out 2).trans rfl; have hfz7_0 := blk_frozen BK130.out 0; have hfz7_1 := blk_frozen BK130.out 1; have hfz7_2 := blk_frozen BK130.out 2))
      (try simp only [Act.put, List.setIfInBounds_toArray, List.set_cons_zero, List.set_cons_succ])
      go_cut [28] (fun v28 wc => ∃ (kq : Nat) (x28_4 : Bool), v28 = .bool x28_4 ∧ Aside0 (extent_Valid.j1 kq l0 x3_1 l0 (l0.length : Int) x8_1 x28_4 ((rd_T58 l0 x8_1).f0) ((rd_T58 l0 x8_1).f1) ((rd_T58 l0 x8_1).f2) = some r) ∧ Aside0 (kq ≤ k1) ∧ Aside0 (wc.heap[gb130]? = some (.cells #[.int .i64 ((rd_T58 l0 x8_1).f0), .int .i64 ((rd_T58 l0 x8_1).f1), .int .i64 ((rd_T58 l0 x8_1).f2)] 58 (0, 0))) ∧ Aside0 (Below w.heap.size w wc))
      case first =>
       have H := HC5.out
       clear HC5
       replace H := Option.bind_eq_some_iff.mp H
       obtain ⟨t131, A80, H⟩ := H
       replace H : (if t131 = true then (if x8_1 > 0 then (if 0 ≤ (wrap64 (x8_1 - 1)) then (if (wrap64 (x8_1 - 1)) < (l0.length : Int) then ((extent_one.f ((rd_T58 l0 (wrap64 (x8_1 - 1))).f0) ((rd_T58 l0 (wrap64 (x8_1 - 1))).f1) ((rd_T58 l0 (wrap64 (x8_1 - 1))).f2) ((rd_T58 l0 x8_1).f0) ((rd_T58 l0 x8_1).f1) ((rd_T58 l0 x8_1).f2)).bind fun t133 => (extent_Valid.j1 k1 l0 x3_1 l0 (l0.length : Int) x8_1 t133 ((rd_T58 l0 x8_1).f0) ((rd_T58 l0 x8_1).f1) ((rd_T58 l0 x8_1).f2))) else (none)) else (none)) else (extent_Valid.j1 k1 l0 x3_1 l0 (l0.length : Int) x8_1 false ((rd_T58 l0 x8_1).f0) ((rd_T58 l0 x8_1).f1) ((rd_T58 l0 x8_1).f2))) else (extent_Valid.j1 k1 l0 x3_1 l0 (l0.length : Int) x8_1 true ((rd_T58 l0 x8_1).f0) ((rd_T58 l0 x8_1).f1) ((rd_T58 l0 x8_1).f2))) = some r := H
       have A8 := Aside0.mk A80
       clear A80
       by_cases c9 : t131 = true
       ·subst c9
        have H1 : (if x8_1 > 0 then (if 0 ≤ (wrap64 (x8_1 - 1)) then (if (wrap64 (x8_1 - 1)) < (l0.length : Int) then ((extent_one.f ((rd_T58 l0 (wrap64 (x8_1 - 1))).f0) ((rd_T58 l0 (wrap64 (x8_1 - 1))).f1) ((rd_T58 l0 (wrap64 (x8_1 - 1))).f2) ((rd_T58 l0 x8_1).f0) ((rd_T58 l0 x8_1).f1) ((rd_T58 l0 x8_1).f2)).bind fun t133 => (extent_Valid.j1 k1 l0 x3_1 l0 (l0.length : Int) x8_1 t133 ((rd_T58 l0 x8_1).f0) ((rd_T58 l0 x8_1).f1) ((rd_T58 l0 x8_1).f2))) else (none)) else (none)) else (extent_Valid.j1 k1 l0 x3_1 l0 (l0.length : Int) x8_1 false ((rd_T58 l0 x8_1).f0) ((rd_T58 l0 x8_1).f1) ((rd_T58 l0 x8_1).f2))) = some r := by rw [if_pos rfl] at H; exact H
        clear H
        have H := H1
        clear H1
        by_cases c10 : x8_1 > 0
        ·rw [if_pos c10] at H
         have c10b0 : decide (0 < x8_1) = true := decide_eq_true c10
         clear c10
         (first | rw [c10b0] | (simp only [i64_w, i32_w]; rw [c10b0]) | skip)
         obtain ⟨ji11, hji11⟩ : ∃ j_ : Int, (wrap64 (x8_1 - 1)) = j_ := ⟨_, rfl⟩
         replace H : (if 0 ≤ (ji11) then (if (ji11) < (l0.length : Int) then ((extent_one.f ((rd_T58 l0 (ji11)).f0) ((rd_T58 l0 (ji11)).f1) ((rd_T58 l0 (ji11)).f2) ((rd_T58 l0 x8_1).f0) ((rd_T58 l0 x8_1).f1) ((rd_T58 l0 x8_1).f2)).bind fun t133 => (extent_Valid.j1 k1 l0 x3_1 l0 (l0.length : Int) x8_1 t133 ((rd_T58 l0 x8_1).f0) ((rd_T58 l0 x8_1).f1) ((rd_T58 l0 x8_1).f2))) else (none)) else (none)) = some r := by first | (rw [hji11] at H; exact H) | (simp only [hji11] at H ⊢; exact H)
         (try rw [hji11] at A8)
         have hji11w : (IntKind.i64.wrap (x8_1 - 1)) = ji11 := (i64_w _).trans hji11
         by_cases c12 : 0 ≤ (ji11)
         ·rw [if_pos c12] at H
          have c12b0 : decide (0 ≤ (ji11)) = true := decide_eq_true c12
          clear c12
          by_cases c13 : (ji11) < (l0.length : Int)
          ·rw [if_pos c13] at H
           have c13b0 : decide ((ji11) < (l0.length : Int)) = true := decide_eq_true c13
           clear c13
           replace H := Option.bind_eq_some_iff.mp H
           obtain ⟨t133, A140, H⟩ := H
           replace H : (extent_Valid.j1 k1 l0 x3_1 l0 (l0.length : Int) x8_1 t133 ((rd_T58 l0 x8_1).f0) ((rd_T58 l0 x8_1).f1) ((rd_T58 l0 x8_1).f2)) = some r := H
           have A14 := Aside0.mk A140
           clear A140
           have H' := Aside0.mk H
           clear H
           try go_wp2
           have n0_ : Aside0 ((((w6.setCell ⟨gb130, 0, none⟩ (.int .i64 ((rd_T58 l0 x8_1).f0))).setCell ⟨gb130, 1, none⟩ (.int .i64 ((rd_T58 l0 x8_1).f1))).setCell ⟨gb130, 2, none⟩ (.int .i64 ((rd_T58 l0 x8_1).f2))).heap[gb130]? = some (.cells #[.int .i64 ((rd_T58 l0 x8_1).f0), .int .i64 ((rd_T58 l0 x8_1).f1), .int .i64 ((rd_T58 l0 x8_1).f2)] 58 (0, 0))) := ⟨by (with_reducible repeat (first | refine blk_drewN ?_ _ | refine blk_drew ?_ | refine blk_alloc ?_ _)); refine blk_put (cs := #[.int .i64 ((rd_T58 l0 x8_1).f0), .int .i64 ((rd_T58 l0 x8_1).f1), .int .i64 0]) ?_ 2 _ rfl; (with_reducible repeat (first | refine blk_drewN ?_ _ | refine blk_drew ?_ | refine blk_alloc ?_ _)); refine blk_put (cs := #[.int .i64 ((rd_T58 l0 x8_1).f0), .int .i64 0, .int .i64 0]) ?_ 1 _ rfl; (with_reducible repeat (first | refine blk_drewN ?_ _ | refine blk_drew ?_ | refine blk_alloc ?_ _)); refine blk_put (cs := #[.int .i64 0, .int .i64 0, .int .i64 0]) ?_ 0 _ rfl; (with_reducible repeat (first | refine blk_drewN ?_ _ | refine blk_drew ?_ | refine blk_alloc ?_ _)); exact BK130.out⟩
           have n1_ : Aside0 (Below w.heap.size w (((w6.setCell ⟨gb130, 0, none⟩ (.int .i64 ((rd_T58 l0 x8_1).f0))).setCell ⟨gb130, 1, none⟩ (.int .i64 ((rd_T58 l0 x8_1).f1))).setCell ⟨gb130, 2, none⟩ (.int .i64 ((rd_T58 l0 x8_1).f2)))) := ⟨by repeat (first | (with_reducible first | exact HB.out | apply below_alloc | apply pw_below_drewN | apply below_drew1 | refine below_set ?_ GE130.out) | exact HB.out)⟩
           (try clear BK130)
           (try clear HB)
           generalize (((w6.setCell ⟨gb130, 0, none⟩ (.int .i64 ((rd_T58 l0 x8_1).f0))).setCell ⟨gb130, 1, none⟩ (.int .i64 ((rd_T58 l0 x8_1).f1))).setCell ⟨gb130, 2, none⟩ (.int .i64 ((rd_T58 l0 x8_1).f2))) = w15 at n0_ n1_ ⊢
           have BK130 := n0_
           have HB := n1_
           clear n0_ n1_
           have n0_ := Aside0.mk (blk_drew BK130.out)
           have n1_ := Aside0.mk (below_drew1 HB.out)
           clear BK130
           clear HB
           have BK130 := n0_
           have HB := n1_
           clear n0_ n1_
           have p132 : 0 ≤ ((ji11) : Int) := of_decide_eq_true (by first | (with_reducible assumption) | assumption)
           have q132 : (ji11) < (l0.length : Int) := of_decide_eq_true (by first | (with_reducible assumption) | assumption)
           obtain ⟨ad132, e132, hx132_0, hx132_1, hx132_2⟩ := at_T58 HR0.out (ji11) p132 q132
           have hw132_2 := hx132_2
           have hw132_1 := hx132_1
           have hw132_0 := hx132_0
           obtain rfl : ad129 = ad132 := (by injection e132)
           replace hx132_0 := (HB.out.cell (World.block_lt_of_cell? w _ hx132_0)).trans hx132_0
           replace hx132_1 := (HB.out.cell (World.block_lt_of_cell? w _ hx132_1)).trans hx132_1
           replace hx132_2 := (HB.out.cell (World.block_lt_of_cell? w _ hx132_2)).trans hx132_2
           replace p132 := eq_true p132
           replace q132 := eq_true q132
           refine start_ (n := 16) (S := fun w' => w'.cell? ⟨gb130, 0, none⟩ = some (.int .i64 ((rd_T58 l0 x8_1).f0)) ∧ w'.cell? ⟨gb130, 1, none⟩ = some (.int .i64 ((rd_T58 l0 x8_1).f1)) ∧ w'.cell? ⟨gb130, 2, none⟩ = some (.int .i64 ((rd_T58 l0 x8_1).f2)) ∧ w'.cell? (ad129.add (((ji11)).toNat * 3)) = some (.int .i64 ((rd_T58 l0 (ji11)).f0)) ∧ w'.cell? ⟨(ad129.add (((ji11)).toNat * 3)).block, (ad129.add (((ji11)).toNat * 3)).off + 1, none⟩ = some (.int .i64 ((rd_T58 l0 (ji11)).f1)) ∧ w'.cell? ⟨(ad129.add (((ji11)).toNat * 3)).block, (ad129.add (((ji11)).toNat * 3)).off + 2, none⟩ = some (.int .i64 ((rd_T58 l0 (ji11)).f2))) (ds := []) #[false, false, false, false, false, false, false, false, false, false, false, false, false, false, false, false] (by kernel_rfl) rfl rfl ⟨(blk_cell BK130.out 0).trans rfl, (blk_cell BK130.out 1).trans rfl, (blk_cell BK130.out 2).trans rfl, ((HB.out.cell (World.block_lt_of_cell? w _ hw132_0)).trans hw132_0), ((HB.out.cell (World.block_lt_of_cell? w _ hw132_1)).trans hw132_1), ((HB.out.cell (World.block_lt_of_cell? w _ hw132_2)).trans hw132_2)⟩ (fun hHeld => ?_); refine with_tabW extent_Valid.tab5 extent_Valid.bits5 (fun HT_ HW_ => ?_)
           generalize w15.drew = w16 at BK130 HB hx132_0 hx132_1 hx132_2 hHeld ⊢
           refine take_ (i := 0) (N := some 13) (v := ?_) (a' := ?_) #[true, false, false, false, false, false, false, false, false, false, false, false, false, false, false, false] rfl rfl (take_ofW HT_.out HW_.out (by kernel_rfl)) (fun _ _ _ h => h) (Or.inl ⟨by rfl, ?_⟩) hHeld ?_ ?_
           rotate_left
           ·rintro w' ⟨s0, s1, s2, s3, s4, s5⟩
            go_simp
            with_reducible rfl
           rotate_left
           ·simp only [Act.put, List.setIfInBounds_toArray, List.set_cons_zero, List.set_cons_succ, i64_w, i32_w]
            rfl
           refine one_ (i := 1) (N := some 14) #[true, true, false, false, false, false, false, false, false, false, false, false, false, false, false, false] rfl rfl (one_of HT_.out (by kernel_rfl)) (by decide) (fun K hK => ?_)
           refine goes_ Try.func41 (by kernel_rfl) rfl #[.agg #[.int .i64 ((rd_T58 l0 x8_1).f0), .int .i64 ((rd_T58 l0 x8_1).f1), .int .i64 ((rd_T58 l0 x8_1).f2)]] (by rfl) rfl rfl (by (try simp only [List.map_toArray, List.map_cons, List.map_nil]); first | done | rfl | (simp only [List.length_drop, List.length_take]; rfl)) ?_
           with_reducible refine (extent_right.calls k1 ((rd_T58 l0 x8_1).f0) ((rd_T58 l0 x8_1).f1) ((rd_T58 l0 x8_1).f2) true _ A8.out).mono ?_
           rintro e w17 ⟨rfl, hb⟩
           refine ⟨_, rfl, ?_⟩
           have n0_ := Aside0.mk (blk_below (g := gb130) (o := .cells #[.int .i64 ((rd_T58 l0 x8_1).f0), .int .i64 ((rd_T58 l0 x8_1).f1), .int .i64 ((rd_T58 l0 x8_1).f2)] 58 (0, 0)) (by (with_reducible repeat (first | refine blk_drewN ?_ _ | refine blk_drew ?_ | refine blk_alloc ?_ _)); exact BK130.out) hb)
           have n1_ := Aside0.mk (below_step (by repeat (first | (with_reducible first | exact HB.out | apply below_alloc | apply pw_below_drewN | apply below_drew1 | refine below_set ?_ GE130.out) | exact HB.out)) hb)
           clear BK130
           clear HB
           have BK130 := n0_
           have HB := n1_
           clear n0_ n1_
           (try clear hb)
           (try clear hb2)
           (try clear hk)
           (try clear hi)
           refine hK.out _ _ ⟨(blk_cell BK130.out 0).trans rfl, (blk_cell BK130.out 1).trans rfl, (blk_cell BK130.out 2).trans rfl, ((HB.out.cell (World.block_lt_of_cell? w _ hw132_0)).trans hw132_0), ((HB.out.cell (World.block_lt_of_cell? w _ hw132_1)).trans hw132_1), ((HB.out.cell (World.block_lt_of_cell? w _ hw132_2)).trans hw132_2)⟩ (fun hHeld => ?_)
           clear hK K
           refine norm_ (a' := ?_) ?_ ?_
           rotate_left
           ·show Act.put _ (some 14) _ = _
            simp only [Act.put, List.setIfInBounds_toArray, List.set_cons_zero, List.set_cons_succ, i64_w, i32_w]
            rfl
           refine pure_ (i := 2) (N := some 15) (v := ?_) (a' := ?_) #[true, true, true, false, false, false, false, false, false, false, false, false, false, false, false, false] rfl rfl (any_of HT_.out (by kernel_rfl)) (fun _ _ _ h => h) (Or.inl ⟨by rfl, ?_⟩) ?_ ?_
           rotate_left
           ·intro w'
            go_simp
            with_reducible rfl
           rotate_left
           ·simp only [Act.put, List.setIfInBounds_toArray, List.set_cons_zero, List.set_cons_succ, i64_w, i32_w]
            rfl
           refine pure_ (i := 3) (N := some 16) (v := ?_) (a' := ?_) #[true, true, true, true, false, false, false, false, false, false, false, false, false, false, false, false] rfl rfl (any_of HT_.out (by kernel_rfl)) (fun _ _ _ h => h) (Or.inl ⟨by rfl, ?_⟩) ?_ ?_
           rotate_left
           ·intro w'
            go_simp
            with_reducible rfl
           rotate_left
           ·simp only [Act.put, List.setIfInBounds_toArray, List.set_cons_zero, List.set_cons_succ, i64_w, i32_w]
            rfl
           refine pure_ (i := 4) (N := some 17) (v := ?_) (a' := ?_) #[true, true, true, true, true, false, false, false, false, false, false, false, false, false, false, false] rfl rfl (any_of HT_.out (by kernel_rfl)) (fun _ _ _ h => h) (Or.inl ⟨by rfl, ?_⟩) ?_ ?_
           rotate_left
           ·intro w'
            go_simp
            with_reducible rfl
           rotate_left
           ·simp only [Act.put, List.setIfInBounds_toArray, List.set_cons_zero, List.set_cons_succ, i64_w, i32_w]
            rfl
           refine pure_ (i := 5) (N := some 18) (v := ?_) (a' := ?_) #[true, true, true, true, true, true, false, false, false, false, false, false, false, false, false, false] rfl rfl (any_of HT_.out (by kernel_rfl)) (fun _ _ _ h => h) (Or.inl ⟨by rfl, ?_⟩) ?_ ?_
           rotate_left
           ·intro w'
            go_simp
            with_reducible rfl
           rotate_left
           ·simp only [Act.put, List.setIfInBounds_toArray, List.set_cons_zero, List.set_cons_succ, i64_w, i32_w]
            rfl
           refine pure_ (i := 6) (N := some 19) (v := ?_) (a' := ?_) #[true, true, true, true, true, true, true, false, false, false, false, false, false, false, false, false] rfl rfl (any_of HT_.out (by kernel_rfl)) (fun _ _ _ h => h) (Or.inl ⟨by rfl, ?_⟩) ?_ ?_
           rotate_left
           ·intro w'
            go_simp
            with_reducible rfl
           rotate_left
           ·simp only [Act.put, List.setIfInBounds_toArray, List.set_cons_zero, List.set_cons_succ, i64_w, i32_w]
            rfl
           refine pure_ (i := 7) (N := some 20) (v := ?_) (a' := ?_) #[true, true, true, true, true, true, true, true, false, false, false, false, false, false, false, false] rfl rfl (any_of HT_.out (by kernel_rfl)) (fun _ _ _ h => h) (Or.inl ⟨by rfl, ?_⟩) ?_ ?_
           rotate_left
           ·intro w'
            go_simp
            with_reducible rfl
           rotate_left
           ·simp only [Act.put, List.setIfInBounds_toArray, List.set_cons_zero, List.set_cons_succ, i64_w, i32_w]
            rfl
           refine pure_ (i := 8) (N := some 21) (v := ?_) (a' := ?_) #[true, true, true, true, true, true, true, true, true, false, false, false, false, false, false, false] rfl rfl (any_of HT_.out (by kernel_rfl)) (fun _ _ _ h => h) (Or.inl ⟨by rfl, ?_⟩) ?_ ?_
           rotate_left
           ·intro w'
            go_simp
            with_reducible rfl
           rotate_left
           ·simp only [Act.put, List.setIfInBounds_toArray, List.set_cons_zero, List.set_cons_succ, i64_w, i32_w]
            rfl
           refine pure_ (i := 9) (N := some 22) (v := ?_) (a' := ?_) #[true, true, true, true, true, true, true, true, true, true, false, false, false, false, false, false] rfl rfl (any_of HT_.out (by kernel_rfl)) (fun _ _ _ h => h) (Or.inl ⟨by rfl, ?_⟩) ?_ ?_
           rotate_left
           ·intro w'
            go_simp
            with_reducible rfl
           rotate_left
           ·simp only [Act.put, List.setIfInBounds_toArray, List.set_cons_zero, List.set_cons_succ, i64_w, i32_w]
            rfl
           refine pure_ (i := 10) (N := some 23) (v := ?_) (a' := ?_) #[true, true, true, true, true, true, true, true, true, true, true, false, false, false, false, false] rfl rfl (any_of HT_.out (by kernel_rfl)) (fun _ _ _ h => h) (Or.inl ⟨by rfl, ?_⟩) ?_ ?_
           rotate_left
           ·intro w'
            go_simp
            with_reducible rfl
           rotate_left
           ·simp only [Act.put, List.setIfInBounds_toArray, List.set_cons_zero, List.set_cons_succ, i64_w, i32_w]
            rfl
           refine take_ (i := 11) (N := some 24) (v := ?_) (a' := ?_) #[true, true, true, true, true, true, true, true, true, true, true, true, false, false, false, false] rfl rfl (take_ofW HT_.out HW_.out (by kernel_rfl)) (fun _ _ _ h => h) (Or.inl ⟨by rfl, ?_⟩) hHeld ?_ ?_
           rotate_left
           ·rintro w' ⟨s0, s1, s2, s3, s4, s5⟩
            go_simp
            with_reducible rfl
           rotate_left
           ·simp only [Act.put, List.setIfInBounds_toArray, List.set_cons_zero, List.set_cons_succ, i64_w, i32_w]
            rfl
           refine take_ (i := 12) (N := some 25) (v := ?_) (a' := ?_) #[true, true, true, true, true, true, true, true, true, true, true, true, true, false, false, false] rfl rfl (take_ofW HT_.out HW_.out (by kernel_rfl)) (fun _ _ _ h => h) (Or.inl ⟨by rfl, ?_⟩) hHeld ?_ ?_
           rotate_left
           ·rintro w' ⟨s0, s1, s2, s3, s4, s5⟩
            go_simp
            with_reducible rfl
           rotate_left
           ·simp only [Act.put, List.setIfInBounds_toArray, List.set_cons_zero, List.set_cons_succ, i64_w, i32_w]
            rfl
           refine one_ (i := 13) (N := some 26) #[true, true, true, true, true, true, true, true, true, true, true, true, true, true, false, false] rfl rfl (one_of HT_.out (by kernel_rfl)) (by decide) (fun K hK => ?_)
           refine goes_ Try.func42 (by kernel_rfl) rfl #[.agg #[.int .i64 ((rd_T58 l0 (ji11)).f0), .int .i64 ((rd_T58 l0 (ji11)).f1), .int .i64 ((rd_T58 l0 (ji11)).f2)], .agg #[.int .i64 ((rd_T58 l0 x8_1).f0), .int .i64 ((rd_T58 l0 x8_1).f1), .int .i64 ((rd_T58 l0 x8_1).f2)]] (by rfl) rfl rfl (by (try simp only [List.map_toArray, List.map_cons, List.map_nil]); first | done | (simp only [hji11]; rfl) | rfl | (simp only [List.length_drop, List.length_take]; rfl)) ?_
           with_reducible refine (extent_one.calls ((rd_T58 l0 (ji11)).f0) ((rd_T58 l0 (ji11)).f1) ((rd_T58 l0 (ji11)).f2) ((rd_T58 l0 x8_1).f0) ((rd_T58 l0 x8_1).f1) ((rd_T58 l0 x8_1).f2) t133 _ A14.out).mono ?_
           rintro e w18 ⟨rfl, hb⟩
           refine ⟨_, rfl, ?_⟩
           have n0_ := Aside0.mk (blk_below (g := gb130) (o := .cells #[.int .i64 ((rd_T58 l0 x8_1).f0), .int .i64 ((rd_T58 l0 x8_1).f1), .int .i64 ((rd_T58 l0 x8_1).f2)] 58 (0, 0)) (by (with_reducible repeat (first | refine blk_drewN ?_ _ | refine blk_drew ?_ | refine blk_alloc ?_ _)); exact BK130.out) hb)
           have n1_ := Aside0.mk (below_step (by repeat (first | (with_reducible first | exact HB.out | apply below_alloc | apply pw_below_drewN | apply below_drew1 | refine below_set ?_ GE130.out) | exact HB.out)) hb)
           clear BK130
           clear HB
           have BK130 := n0_
           have HB := n1_
           clear n0_ n1_
           (try clear hb)
           (try clear hb2)
           (try clear hk)
           (try clear hi)
           refine hK.out _ _ ⟨(blk_cell BK130.out 0).trans rfl, (blk_cell BK130.out 1).trans rfl, (blk_cell BK130.out 2).trans rfl, ((HB.out.cell (World.block_lt_of_cell? w _ hw132_0)).trans hw132_0), ((HB.out.cell (World.block_lt_of_cell? w _ hw132_1)).trans hw132_1), ((HB.out.cell (World.block_lt_of_cell? w _ hw132_2)).trans hw132_2)⟩ (fun hHeld => ?_)
           clear hK K
           refine norm_ (a' := ?_) ?_ ?_
           rotate_left
           ·show Act.put _ (some 26) _ = _
            simp only [Act.put, List.setIfInBounds_toArray, List.set_cons_zero, List.set_cons_succ, i64_w, i32_w]
            rfl
           refine pure_ (i := 14) (N := some 27) (v := ?_) (a' := ?_) #[true, true, true, true, true, true, true, true, true, true, true, true, true, true, true, false] rfl rfl (any_of HT_.out (by kernel_rfl)) (fun _ _ _ h => h) (Or.inl ⟨by rfl, ?_⟩) ?_ ?_
           rotate_left
           ·intro w'
            go_simp
            with_reducible rfl
           rotate_left
           ·simp only [Act.put, List.setIfInBounds_toArray, List.set_cons_zero, List.set_cons_succ, i64_w, i32_w]
            rfl
           refine pure_ (i := 15) (N := some 28) (v := ?_) (a' := ?_) #[true, true, true, true, true, true, true, true, true, true, true, true, true, true, true, true] rfl rfl (any_of HT_.out (by kernel_rfl)) (fun _ _ _ h => h) (Or.inl ⟨by rfl, ?_⟩) ?_ ?_
           rotate_left
           ·intro w'
            go_simp
            with_reducible rfl
           rotate_left
           ·simp only [Act.put, List.setIfInBounds_toArray, List.set_cons_zero, List.set_cons_succ, i64_w, i32_w]
            rfl
           refine done_ (done_of HT_.out (by kernel_rfl)) ?_
           try go_wp2
           go_meet
           case rel => exact ⟨_, (t133), (by first | rfl | (simp; done) | (simp [*]; done)), H', ⟨by have := HK1.out; first | omega | exact Nat.le_refl _⟩, ⟨by (with_reducible repeat (first | refine blk_drewN ?_ _ | refine blk_drew ?_ | refine blk_alloc ?_ _)); exact BK130.out⟩, ⟨by repeat (first | (with_reducible first | exact HB.out | apply below_alloc | apply pw_below_drewN | apply below_drew1 | refine below_set ?_ GE130.out) | exact HB.out)⟩⟩
          ·rw [if_neg c13] at H
           exact absurd H (by simp)
         ·rw [if_neg c12] at H
          exact absurd H (by simp)
        ·rw [if_neg c10] at H
         have c10b0 : decide (0 < x8_1) = false := decide_eq_false c10
         clear c10
         (first | rw [c10b0] | (simp only [i64_w, i32_w]; rw [c10b0]) | skip)
         have H' := Aside0.mk H
         clear H
         try go_wp2
         have n0_ : Aside0 ((((w6.setCell ⟨gb130, 0, none⟩ (.int .i64 ((rd_T58 l0 x8_1).f0))).setCell ⟨gb130, 1, none⟩ (.int .i64 ((rd_T58 l0 x8_1).f1))).setCell ⟨gb130, 2, none⟩ (.int .i64 ((rd_T58 l0 x8_1).f2))).heap[gb130]? = some (.cells #[.int .i64 ((rd_T58 l0 x8_1).f0), .int .i64 ((rd_T58 l0 x8_1).f1), .int .i64 ((rd_T58 l0 x8_1).f2)] 58 (0, 0))) := ⟨by (with_reducible repeat (first | refine blk_drewN ?_ _ | refine blk_drew ?_ | refine blk_alloc ?_ _)); refine blk_put (cs := #[.int .i64 ((rd_T58 l0 x8_1).f0), .int .i64 ((rd_T58 l0 x8_1).f1), .int .i64 0]) ?_ 2 _ rfl; (with_reducible repeat (first | refine blk_drewN ?_ _ | refine blk_drew ?_ | refine blk_alloc ?_ _)); refine blk_put (cs := #[.int .i64 ((rd_T58 l0 x8_1).f0), .int .i64 0, .int .i64 0]) ?_ 1 _ rfl; (with_reducible repeat (first | refine blk_drewN ?_ _ | refine blk_drew ?_ | refine blk_alloc ?_ _)); refine blk_put (cs := #[.int .i64 0, .int .i64 0, .int .i64 0]) ?_ 0 _ rfl; (with_reducible repeat (first | refine blk_drewN ?_ _ | refine blk_drew ?_ | refine blk_alloc ?_ _)); exact BK130.out⟩
         have n1_ : Aside0 (Below w.heap.size w (((w6.setCell ⟨gb130, 0, none⟩ (.int .i64 ((rd_T58 l0 x8_1).f0))).setCell ⟨gb130, 1, none⟩ (.int .i64 ((rd_T58 l0 x8_1).f1))).setCell ⟨gb130, 2, none⟩ (.int .i64 ((rd_T58 l0 x8_1).f2)))) := ⟨by repeat (first | (with_reducible first | exact HB.out | apply below_alloc | apply pw_below_drewN | apply below_drew1 | refine below_set ?_ GE130.out) | exact HB.out)⟩
         (try clear BK130)
         (try clear HB)
         generalize (((w6.setCell ⟨gb130, 0, none⟩ (.int .i64 ((rd_T58 l0 x8_1).f0))).setCell ⟨gb130, 1, none⟩ (.int .i64 ((rd_T58 l0 x8_1).f1))).setCell ⟨gb130, 2, none⟩ (.int .i64 ((rd_T58 l0 x8_1).f2))) = w19 at n0_ n1_ ⊢
         have BK130 := n0_
         have HB := n1_
         clear n0_ n1_
         have n0_ := Aside0.mk (blk_drew BK130.out)
         have n1_ := Aside0.mk (below_drew1 HB.out)
         clear BK130
         clear HB
         have BK130 := n0_
         have HB := n1_
         clear n0_ n1_
         refine start_ (n := 16) (S := fun w' => w'.cell? ⟨gb130, 0, none⟩ = some (.int .i64 ((rd_T58 l0 x8_1).f0)) ∧ w'.cell? ⟨gb130, 1, none⟩ = some (.int .i64 ((rd_T58 l0 x8_1).f1)) ∧ w'.cell? ⟨gb130, 2, none⟩ = some (.int .i64 ((rd_T58 l0 x8_1).f2))) (ds := []) #[false, false, false, false, false, false, false, false, false, false, false, false, false, false, false, false] (by kernel_rfl) rfl rfl ⟨(blk_cell BK130.out 0).trans rfl, (blk_cell BK130.out 1).trans rfl, (blk_cell BK130.out 2).trans rfl⟩ (fun hHeld => ?_); refine with_tabW extent_Valid.tab5 extent_Valid.bits5 (fun HT_ HW_ => ?_)
         generalize w19.drew = w20 at BK130 HB hHeld ⊢
         refine take_ (i := 0) (N := some 13) (v := ?_) (a' := ?_) #[true, false, false, false, false, false, false, false, false, false, false, false, false, false, false, false] rfl rfl (take_ofW HT_.out HW_.out (by kernel_rfl)) (fun _ _ _ h => h) (Or.inl ⟨by rfl, ?_⟩) hHeld ?_ ?_
         rotate_left
         ·rintro w' ⟨s0, s1, s2⟩
          go_simp
          with_reducible rfl
         rotate_left
         ·simp only [Act.put, List.setIfInBounds_toArray, List.set_cons_zero, List.set_cons_succ, i64_w, i32_w]
          rfl
         refine one_ (i := 1) (N := some 14) #[true, true, false, false, false, false, false, false, false, false, false, false, false, false, false, false] rfl rfl (one_of HT_.out (by kernel_rfl)) (by decide) (fun K hK => ?_)
         refine goes_ Try.func41 (by kernel_rfl) rfl #[.agg #[.int .i64 ((rd_T58 l0 x8_1).f0), .int .i64 ((rd_T58 l0 x8_1).f1), .int .i64 ((rd_T58 l0 x8_1).f2)]] (by rfl) rfl rfl (by (try simp only [List.map_toArray, List.map_cons, List.map_nil]); first | done | rfl | (simp only [List.length_drop, List.length_take]; rfl)) ?_
         with_reducible refine (extent_right.calls k1 ((rd_T58 l0 x8_1).f0) ((rd_T58 l0 x8_1).f1) ((rd_T58 l0 x8_1).f2) true _ A8.out).mono ?_
         rintro e w21 ⟨rfl, hb⟩
         refine ⟨_, rfl, ?_⟩
         have n0_ := Aside0.mk (blk_below (g := gb130) (o := .cells #[.int .i64 ((rd_T58 l0 x8_1).f0), .int .i64 ((rd_T58 l0 x8_1).f1), .int .i64 ((rd_T58 l0 x8_1).f2)] 58 (0, 0)) (by (with_reducible repeat (first | refine blk_drewN ?_ _ | refine blk_drew ?_ | refine blk_alloc ?_ _)); exact BK130.out) hb)
         have n1_ := Aside0.mk (below_step (by repeat (first | (with_reducible first | exact HB.out | apply below_alloc | apply pw_below_drewN | apply below_drew1 | refine below_set ?_ GE130.out) | exact HB.out)) hb)
         clear BK130
         clear HB
         have BK130 := n0_
         have HB := n1_
         clear n0_ n1_
         (try clear hb)
         (try clear hb2)
         (try clear hk)
         (try clear hi)
         refine hK.out _ _ ⟨(blk_cell BK130.out 0).trans rfl, (blk_cell BK130.out 1).trans rfl, (blk_cell BK130.out 2).trans rfl⟩ (fun hHeld => ?_)
         clear hK K
         refine norm_ (a' := ?_) ?_ ?_
         rotate_left
         ·show Act.put _ (some 14) _ = _
          simp only [Act.put, List.setIfInBounds_toArray, List.set_cons_zero, List.set_cons_succ, i64_w, i32_w]
          rfl
         refine pure_ (i := 2) (N := some 15) (v := ?_) (a' := ?_) #[true, true, true, false, false, false, false, false, false, false, false, false, false, false, false, false] rfl rfl (any_of HT_.out (by kernel_rfl)) (fun _ _ _ h => h) (Or.inl ⟨by rfl, ?_⟩) ?_ ?_
         rotate_left
         ·intro w'
          go_simp
          with_reducible rfl
         rotate_left
         ·simp only [Act.put, List.setIfInBounds_toArray, List.set_cons_zero, List.set_cons_succ, i64_w, i32_w]
          rfl
         refine pure_ (i := 3) (N := some 16) (v := ?_) (a' := ?_) #[true, true, true, true, false, false, false, false, false, false, false, false, false, false, false, false] rfl rfl (any_of HT_.out (by kernel_rfl)) (fun _ _ _ h => h) (Or.inl ⟨by rfl, ?_⟩) ?_ ?_
         rotate_left
         ·intro w'
          go_simp
          with_reducible rfl
         rotate_left
         ·simp only [Act.put, List.setIfInBounds_toArray, List.set_cons_zero, List.set_cons_succ, i64_w, i32_w]
          rfl
         refine pure_ (i := 4) (N := some 17) (v := ?_) (a' := ?_) #[true, true, true, true, true, false, false, false, false, false, false, false, false, false, false, false] rfl rfl (any_of HT_.out (by kernel_rfl)) (fun _ _ _ h => h) (Or.inl ⟨by rfl, ?_⟩) ?_ ?_
         rotate_left
         ·intro w'
          go_simp
          with_reducible rfl
         rotate_left
         ·simp only [Act.put, List.setIfInBounds_toArray, List.set_cons_zero, List.set_cons_succ, i64_w, i32_w]
          rfl
         refine pure_ (i := 5) (N := some 18) (v := ?_) (a' := ?_) #[true, true, true, true, true, true, false, false, false, false, false, false, false, false, false, false] rfl rfl (any_of HT_.out (by kernel_rfl)) (fun _ _ _ h => h) (Or.inl ⟨by rfl, ?_⟩) ?_ ?_
         rotate_left
         ·intro w'
          go_simp
          with_reducible rfl
         rotate_left
         ·simp only [Act.put, List.setIfInBounds_toArray, List.set_cons_zero, List.set_cons_succ, i64_w, i32_w]
          rfl
         refine pure_ (i := 6) (N := some 19) (v := ?_) (a' := ?_) #[true, true, true, true, true, true, true, false, false, false, false, false, false, false, false, false] rfl rfl (any_of HT_.out (by kernel_rfl)) (fun _ _ _ h => h) (Or.inl ⟨by rfl, ?_⟩) ?_ ?_
         rotate_left
         ·intro w'
          go_simp
          with_reducible rfl
         rotate_left
         ·simp only [Act.put, List.setIfInBounds_toArray, List.set_cons_zero, List.set_cons_succ, i64_w, i32_w]
          rfl
         refine pure_ (i := 7) (N := some 20) (v := undef) (a' := ?_) #[true, true, true, true, true, true, true, true, false, false, false, false, false, false, false, false] rfl rfl (any_of HT_.out (by kernel_rfl)) (fun _ _ _ h => h) (Or.inr ⟨by rfl, rfl⟩) ?_ ?_
         rotate_left
         ·simp only [Act.put, List.setIfInBounds_toArray, List.set_cons_zero, List.set_cons_succ, i64_w, i32_w]
          rfl
         refine pure_ (i := 8) (N := some 21) (v := undef) (a' := ?_) #[true, true, true, true, true, true, true, true, true, false, false, false, false, false, false, false] rfl rfl (any_of HT_.out (by kernel_rfl)) (fun _ _ _ h => h) (Or.inr ⟨by rfl, rfl⟩) ?_ ?_
         rotate_left
         ·simp only [Act.put, List.setIfInBounds_toArray, List.set_cons_zero, List.set_cons_succ, i64_w, i32_w]
          rfl
         refine pure_ (i := 9) (N := some 22) (v := undef) (a' := ?_) #[true, true, true, true, true, true, true, true, true, true, false, false, false, false, false, false] rfl rfl (any_of HT_.out (by kernel_rfl)) (fun _ _ _ h => h) (Or.inr ⟨by rfl, rfl⟩) ?_ ?_
         rotate_left
         ·simp only [Act.put, List.setIfInBounds_toArray, List.set_cons_zero, List.set_cons_succ, i64_w, i32_w]
          rfl
         refine pure_ (i := 10) (N := some 23) (v := undef) (a' := ?_) #[true, true, true, true, true, true, true, true, true, true, true, false, false, false, false, false] rfl rfl (any_of HT_.out (by kernel_rfl)) (fun _ _ _ h => h) (Or.inr ⟨by rfl, rfl⟩) ?_ ?_
         rotate_left
         ·simp only [Act.put, List.setIfInBounds_toArray, List.set_cons_zero, List.set_cons_succ, i64_w, i32_w]
          rfl
         refine pure_ (i := 11) (N := some 24) (v := undef) (a' := ?_) #[true, true, true, true, true, true, true, true, true, true, true, true, false, false, false, false] rfl rfl (any_of HT_.out (by kernel_rfl)) (fun _ _ _ h => h) (Or.inr ⟨by rfl, rfl⟩) ?_ ?_
         rotate_left
         ·simp only [Act.put, List.setIfInBounds_toArray, List.set_cons_zero, List.set_cons_succ, i64_w, i32_w]
          rfl
         refine pure_ (i := 12) (N := some 25) (v := undef) (a' := ?_) #[true, true, true, true, true, true, true, true, true, true, true, true, true, false, false, false] rfl rfl (any_of HT_.out (by kernel_rfl)) (fun _ _ _ h => h) (Or.inr ⟨by rfl, rfl⟩) ?_ ?_
         rotate_left
         ·simp only [Act.put, List.setIfInBounds_toArray, List.set_cons_zero, List.set_cons_succ, i64_w, i32_w]
          rfl
         refine pure_ (i := 13) (N := some 26) (v := undef) (a' := ?_) #[true, true, true, true, true, true, true, true, true, true, true, true, true, true, false, false] rfl rfl (any_of HT_.out (by kernel_rfl)) (fun _ _ _ h => h) (Or.inr ⟨by rfl, rfl⟩) ?_ ?_
         rotate_left
         ·simp only [Act.put, List.setIfInBounds_toArray, List.set_cons_zero, List.set_cons_succ, i64_w, i32_w]
          rfl
         refine pure_ (i := 14) (N := some 27) (v := ?_) (a' := ?_) #[true, true, true, true, true, true, true, true, true, true, true, true, true, true, true, false] rfl rfl (any_of HT_.out (by kernel_rfl)) (fun _ _ _ h => h) (Or.inl ⟨by rfl, ?_⟩) ?_ ?_
         rotate_left
         ·intro w'
          go_simp
          with_reducible rfl
         rotate_left
         ·simp only [Act.put, List.setIfInBounds_toArray, List.set_cons_zero, List.set_cons_succ, i64_w, i32_w]
          rfl
         refine pure_ (i := 15) (N := some 28) (v := ?_) (a' := ?_) #[true, true, true, true, true, true, true, true, true, true, true, true, true, true, true, true] rfl rfl (any_of HT_.out (by kernel_rfl)) (fun _ _ _ h => h) (Or.inl ⟨by rfl, ?_⟩) ?_ ?_
         rotate_left
         ·intro w'
          go_simp
          with_reducible rfl
         rotate_left
         ·simp only [Act.put, List.setIfInBounds_toArray, List.set_cons_zero, List.set_cons_succ, i64_w, i32_w]
          rfl
         refine done_ (done_of HT_.out (by kernel_rfl)) ?_
         try go_wp2
         go_meet
         case rel => exact ⟨_, (false), (by first | rfl | (simp; done) | (simp [*]; done)), H', ⟨by have := HK1.out; first | omega | exact Nat.le_refl _⟩, ⟨by (with_reducible repeat (first | refine blk_drewN ?_ _ | refine blk_drew ?_ | refine blk_alloc ?_ _)); exact BK130.out⟩, ⟨by repeat (first | (with_reducible first | exact HB.out | apply below_alloc | apply pw_below_drewN | apply below_drew1 | refine below_set ?_ GE130.out) | exact HB.out)⟩⟩
       ·replace c9 := Bool.eq_false_iff.mpr c9
        subst c9
        have H1 : (extent_Valid.j1 k1 l0 x3_1 l0 (l0.length : Int) x8_1 true ((rd_T58 l0 x8_1).f0) ((rd_T58 l0 x8_1).f1) ((rd_T58 l0 x8_1).f2)) = some r := by rw [if_neg (show ¬ (false = true) by decide)] at H; exact H
        clear H
        have H := H1
        clear H1
        have H' := Aside0.mk H
        clear H
        try go_wp2
        have n0_ : Aside0 ((((w6.setCell ⟨gb130, 0, none⟩ (.int .i64 ((rd_T58 l0 x8_1).f0))).setCell ⟨gb130, 1, none⟩ (.int .i64 ((rd_T58 l0 x8_1).f1))).setCell ⟨gb130, 2, none⟩ (.int .i64 ((rd_T58 l0 x8_1).f2))).heap[gb130]? = some (.cells #[.int .i64 ((rd_T58 l0 x8_1).f0), .int .i64 ((rd_T58 l0 x8_1).f1), .int .i64 ((rd_T58 l0 x8_1).f2)] 58 (0, 0))) := ⟨by (with_reducible repeat (first | refine blk_drewN ?_ _ | refine blk_drew ?_ | refine blk_alloc ?_ _)); refine blk_put (cs := #[.int .i64 ((rd_T58 l0 x8_1).f0), .int .i64 ((rd_T58 l0 x8_1).f1), .int .i64 0]) ?_ 2 _ rfl; (with_reducible repeat (first | refine blk_drewN ?_ _ | refine blk_drew ?_ | refine blk_alloc ?_ _)); refine blk_put (cs := #[.int .i64 ((rd_T58 l0 x8_1).f0), .int .i64 0, .int .i64 0]) ?_ 1 _ rfl; (with_reducible repeat (first | refine blk_drewN ?_ _ | refine blk_drew ?_ | refine blk_alloc ?_ _)); refine blk_put (cs := #[.int .i64 0, .int .i64 0, .int .i64 0]) ?_ 0 _ rfl; (with_reducible repeat (first | refine blk_drewN ?_ _ | refine blk_drew ?_ | refine blk_alloc ?_ _)); exact BK130.out⟩
        have n1_ : Aside0 (Below w.heap.size w (((w6.setCell ⟨gb130, 0, none⟩ (.int .i64 ((rd_T58 l0 x8_1).f0))).setCell ⟨gb130, 1, none⟩ (.int .i64 ((rd_T58 l0 x8_1).f1))).setCell ⟨gb130, 2, none⟩ (.int .i64 ((rd_T58 l0 x8_1).f2)))) := ⟨by repeat (first | (with_reducible first | exact HB.out | apply below_alloc | apply pw_below_drewN | apply below_drew1 | refine below_set ?_ GE130.out) | exact HB.out)⟩
        (try clear BK130)
        (try clear HB)
        generalize (((w6.setCell ⟨gb130, 0, none⟩ (.int .i64 ((rd_T58 l0 x8_1).f0))).setCell ⟨gb130, 1, none⟩ (.int .i64 ((rd_T58 l0 x8_1).f1))).setCell ⟨gb130, 2, none⟩ (.int .i64 ((rd_T58 l0 x8_1).f2))) = w22 at n0_ n1_ ⊢
        have BK130 := n0_
        have HB := n1_
        clear n0_ n1_
        have n0_ := Aside0.mk (blk_drew BK130.out)
        have n1_ := Aside0.mk (below_drew1 HB.out)
        clear BK130
        clear HB
        have BK130 := n0_
        have HB := n1_
        clear n0_ n1_
        refine start_ (n := 16) (S := fun w' => w'.cell? ⟨gb130, 0, none⟩ = some (.int .i64 ((rd_T58 l0 x8_1).f0)) ∧ w'.cell? ⟨gb130, 1, none⟩ = some (.int .i64 ((rd_T58 l0 x8_1).f1)) ∧ w'.cell? ⟨gb130, 2, none⟩ = some (.int .i64 ((rd_T58 l0 x8_1).f2))) (ds := []) #[false, false, false, false, false, false, false, false, false, false, false, false, false, false, false, false] (by kernel_rfl) rfl rfl ⟨(blk_cell BK130.out 0).trans rfl, (blk_cell BK130.out 1).trans rfl, (blk_cell BK130.out 2).trans rfl⟩ (fun hHeld => ?_); refine with_tabW extent_Valid.tab5 extent_Valid.bits5 (fun HT_ HW_ => ?_)
        generalize w22.drew = w23 at BK130 HB hHeld ⊢
        refine take_ (i := 0) (N := some 13) (v := ?_) (a' := ?_) #[true, false, false, false, false, false, false, false, false, false, false, false, false, false, false, false] rfl rfl (take_ofW HT_.out HW_.out (by kernel_rfl)) (fun _ _ _ h => h) (Or.inl ⟨by rfl, ?_⟩) hHeld ?_ ?_
        rotate_left
        ·rintro w' ⟨s0, s1, s2⟩
         go_simp
         with_reducible rfl
        rotate_left
        ·simp only [Act.put, List.setIfInBounds_toArray, List.set_cons_zero, List.set_cons_succ, i64_w, i32_w]
         rfl
        refine one_ (i := 1) (N := some 14) #[true, true, false, false, false, false, false, false, false, false, false, false, false, false, false, false] rfl rfl (one_of HT_.out (by kernel_rfl)) (by decide) (fun K hK => ?_)
        refine goes_ Try.func41 (by kernel_rfl) rfl #[.agg #[.int .i64 ((rd_T58 l0 x8_1).f0), .int .i64 ((rd_T58 l0 x8_1).f1), .int .i64 ((rd_T58 l0 x8_1).f2)]] (by rfl) rfl rfl (by (try simp only [List.map_toArray, List.map_cons, List.map_nil]); first | done | rfl | (simp only [List.length_drop, List.length_take]; rfl)) ?_
        with_reducible refine (extent_right.calls k1 ((rd_T58 l0 x8_1).f0) ((rd_T58 l0 x8_1).f1) ((rd_T58 l0 x8_1).f2) false _ A8.out).mono ?_
        rintro e w24 ⟨rfl, hb⟩
        refine ⟨_, rfl, ?_⟩
        have n0_ := Aside0.mk (blk_below (g := gb130) (o := .cells #[.int .i64 ((rd_T58 l0 x8_1).f0), .int .i64 ((rd_T58 l0 x8_1).f1), .int .i64 ((rd_T58 l0 x8_1).f2)] 58 (0, 0)) (by (with_reducible repeat (first | refine blk_drewN ?_ _ | refine blk_drew ?_ | refine blk_alloc ?_ _)); exact BK130.out) hb)
        have n1_ := Aside0.mk (below_step (by repeat (first | (with_reducible first | exact HB.out | apply below_alloc | apply pw_below_drewN | apply below_drew1 | refine below_set ?_ GE130.out) | exact HB.out)) hb)
        clear BK130
        clear HB
        have BK130 := n0_
        have HB := n1_
        clear n0_ n1_
        (try clear hb)
        (try clear hb2)
        (try clear hk)
        (try clear hi)
        refine hK.out _ _ ⟨(blk_cell BK130.out 0).trans rfl, (blk_cell BK130.out 1).trans rfl, (blk_cell BK130.out 2).trans rfl⟩ (fun hHeld => ?_)
        clear hK K
        refine norm_ (a' := ?_) ?_ ?_
        rotate_left
        ·show Act.put _ (some 14) _ = _
         simp only [Act.put, List.setIfInBounds_toArray, List.set_cons_zero, List.set_cons_succ, i64_w, i32_w]
         rfl
        refine pure_ (i := 2) (N := some 15) (v := ?_) (a' := ?_) #[true, true, true, false, false, false, false, false, false, false, false, false, false, false, false, false] rfl rfl (any_of HT_.out (by kernel_rfl)) (fun _ _ _ h => h) (Or.inl ⟨by rfl, ?_⟩) ?_ ?_
        rotate_left
        ·intro w'
         go_simp
         with_reducible rfl
        rotate_left
        ·simp only [Act.put, List.setIfInBounds_toArray, List.set_cons_zero, List.set_cons_succ, i64_w, i32_w]
         rfl
        refine pure_ (i := 3) (N := some 16) (v := ?_) (a' := ?_) #[true, true, true, true, false, false, false, false, false, false, false, false, false, false, false, false] rfl rfl (any_of HT_.out (by kernel_rfl)) (fun _ _ _ h => h) (Or.inl ⟨by rfl, ?_⟩) ?_ ?_
        rotate_left
        ·intro w'
         go_simp
         with_reducible rfl
        rotate_left
        ·simp only [Act.put, List.setIfInBounds_toArray, List.set_cons_zero, List.set_cons_succ, i64_w, i32_w]
         rfl
        refine pure_ (i := 4) (N := some 17) (v := undef) (a' := ?_) #[true, true, true, true, true, false, false, false, false, false, false, false, false, false, false, false] rfl rfl (any_of HT_.out (by kernel_rfl)) (fun _ _ _ h => h) (Or.inr ⟨by rfl, rfl⟩) ?_ ?_
        rotate_left
        ·simp only [Act.put, List.setIfInBounds_toArray, List.set_cons_zero, List.set_cons_succ, i64_w, i32_w]
         rfl
        refine pure_ (i := 5) (N := some 18) (v := undef) (a' := ?_) #[true, true, true, true, true, true, false, false, false, false, false, false, false, false, false, false] rfl rfl (any_of HT_.out (by kernel_rfl)) (fun _ _ _ h => h) (Or.inr ⟨by rfl, rfl⟩) ?_ ?_
        rotate_left
        ·simp only [Act.put, List.setIfInBounds_toArray, List.set_cons_zero, List.set_cons_succ, i64_w, i32_w]
         rfl
        refine pure_ (i := 6) (N := some 19) (v := undef) (a' := ?_) #[true, true, true, true, true, true, true, false, false, false, false, false, false, false, false, false] rfl rfl (any_of HT_.out (by kernel_rfl)) (fun _ _ _ h => h) (Or.inr ⟨by rfl, rfl⟩) ?_ ?_
        rotate_left
        ·simp only [Act.put, List.setIfInBounds_toArray, List.set_cons_zero, List.set_cons_succ, i64_w, i32_w]
         rfl
        refine pure_ (i := 7) (N := some 20) (v := undef) (a' := ?_) #[true, true, true, true, true, true, true, true, false, false, false, false, false, false, false, false] rfl rfl (any_of HT_.out (by kernel_rfl)) (fun _ _ _ h => h) (Or.inr ⟨by rfl, rfl⟩) ?_ ?_
        rotate_left
        ·simp only [Act.put, List.setIfInBounds_toArray, List.set_cons_zero, List.set_cons_succ, i64_w, i32_w]
         rfl
        refine pure_ (i := 8) (N := some 21) (v := undef) (a' := ?_) #[true, true, true, true, true, true, true, true, true, false, false, false, false, false, false, false] rfl rfl (any_of HT_.out (by kernel_rfl)) (fun _ _ _ h => h) (Or.inr ⟨by rfl, rfl⟩) ?_ ?_
        rotate_left
        ·simp only [Act.put, List.setIfInBounds_toArray, List.set_cons_zero, List.set_cons_succ, i64_w, i32_w]
         rfl
        refine pure_ (i := 9) (N := some 22) (v := undef) (a' := ?_) #[true, true, true, true, true, true, true, true, true, true, false, false, false, false, false, false] rfl rfl (any_of HT_.out (by kernel_rfl)) (fun _ _ _ h => h) (Or.inr ⟨by rfl, rfl⟩) ?_ ?_
        rotate_left
        ·simp only [Act.put, List.setIfInBounds_toArray, List.set_cons_zero, List.set_cons_succ, i64_w, i32_w]
         rfl
        refine pure_ (i := 10) (N := some 23) (v := undef) (a' := ?_) #[true, true, true, true, true, true, true, true, true, true, true, false, false, false, false, false] rfl rfl (any_of HT_.out (by kernel_rfl)) (fun _ _ _ h => h) (Or.inr ⟨by rfl, rfl⟩) ?_ ?_
        rotate_left
        ·simp only [Act.put, List.setIfInBounds_toArray, List.set_cons_zero, List.set_cons_succ, i64_w, i32_w]
         rfl
        refine pure_ (i := 11) (N := some 24) (v := undef) (a' := ?_) #[true, true, true, true, true, true, true, true, true, true, true, true, false, false, false, false] rfl rfl (any_of HT_.out (by kernel_rfl)) (fun _ _ _ h => h) (Or.inr ⟨by rfl, rfl⟩) ?_ ?_
        rotate_left
        ·simp only [Act.put, List.setIfInBounds_toArray, List.set_cons_zero, List.set_cons_succ, i64_w, i32_w]
         rfl
        refine pure_ (i := 12) (N := some 25) (v := undef) (a' := ?_) #[true, true, true, true, true, true, true, true, true, true, true, true, true, false, false, false] rfl rfl (any_of HT_.out (by kernel_rfl)) (fun _ _ _ h => h) (Or.inr ⟨by rfl, rfl⟩) ?_ ?_
        rotate_left
        ·simp only [Act.put, List.setIfInBounds_toArray, List.set_cons_zero, List.set_cons_succ, i64_w, i32_w]
         rfl
        refine pure_ (i := 13) (N := some 26) (v := undef) (a' := ?_) #[true, true, true, true, true, true, true, true, true, true, true, true, true, true, false, false] rfl rfl (any_of HT_.out (by kernel_rfl)) (fun _ _ _ h => h) (Or.inr ⟨by rfl, rfl⟩) ?_ ?_
        rotate_left
        ·simp only [Act.put, List.setIfInBounds_toArray, List.set_cons_zero, List.set_cons_succ, i64_w, i32_w]
         rfl
        refine pure_ (i := 14) (N := some 27) (v := undef) (a' := ?_) #[true, true, true, true, true, true, true, true, true, true, true, true, true, true, true, false] rfl rfl (any_of HT_.out (by kernel_rfl)) (fun _ _ _ h => h) (Or.inr ⟨by rfl, rfl⟩) ?_ ?_
        rotate_left
        ·simp only [Act.put, List.setIfInBounds_toArray, List.set_cons_zero, List.set_cons_succ, i64_w, i32_w]
         rfl
        refine pure_ (i := 15) (N := some 28) (v := ?_) (a' := ?_) #[true, true, true, true, true, true, true, true, true, true, true, true, true, true, true, true] rfl rfl (any_of HT_.out (by kernel_rfl)) (fun _ _ _ h => h) (Or.inl ⟨by rfl, ?_⟩) ?_ ?_
        rotate_left
        ·intro w'
         go_simp
         with_reducible rfl
        rotate_left
        ·simp only [Act.put, List.setIfInBounds_toArray, List.set_cons_zero, List.set_cons_succ, i64_w, i32_w]
         rfl
        refine done_ (done_of HT_.out (by kernel_rfl)) ?_
        try go_wp2
        go_meet
        case rel => exact ⟨_, (true), (by first | rfl | (simp; done) | (simp [*]; done)), H', ⟨by have := HK1.out; first | omega | exact Nat.le_refl _⟩, ⟨by (with_reducible repeat (first | refine blk_drewN ?_ _ | refine blk_drew ?_ | refine blk_alloc ?_ _)); exact BK130.out⟩, ⟨by repeat (first | (with_reducible first | exact HB.out | apply below_alloc | apply pw_below_drewN | apply below_drew1 | refine below_set ?_ GE130.out) | exact HB.out)⟩⟩
      case rest =>
       clear HC5
       try clear c1
       try clear p1
       try clear q1
       try clear hx1
       try clear c2
       try clear c2b0
       try clear p2
       try clear c3
       try clear c3b0
       try clear c4
       try clear c4b0
       try clear p6
       try clear c9
       try clear c10
       try clear c10b0
       try clear c12
       try clear c12b0
       try clear p12
       try clear q12
       try clear hx12
       try clear c13
       try clear c13b0
       try clear p13
       try clear q13
       try clear hx13
       try clear hcz7_0
       try clear hcz7_1
       try clear hcz7_2
       try clear hfz7_0
       try clear hfz7_1
       try clear hfz7_2
       try clear hx129_0
       try clear hx129_1
       try clear hx129_2
       try clear hx132_0
       try clear hx132_1
       try clear hx132_2
       try clear p129
       try clear p132
       try clear q129
       try clear q132
       obtain ⟨kq, x28_4, rfl, HA, HJ4, BK130, HB⟩ := hcut
       cases kq with
       | zero => exact absurd HA.out (by simp [extent_Valid.j1])
       | succ kj4 =>
        have H := HA.out
        clear HA
        simp only [extent_Valid.j1] at H
        by_cases c25 : x28_4 = true
        ·subst c25
         have H1 : (some false) = some r := by rw [if_pos rfl] at H; exact H
         clear H
         have H := H1
         clear H1
         obtain rfl := Option.some.inj H
         go_wp2
         go_ret
         exact ⟨by first | rfl | (simp [errW_none, errW_some] <;> rfl) | (simp [*, errW_none, errW_some] <;> rfl) | (exfalso; simp_all only [aside0_iff, Option.some.injEq, reduceCtorEq]), by repeat (first | (with_reducible first | exact HB.out | apply below_alloc | apply pw_below_drewN | apply below_drew1 | refine below_set ?_ GE130.out) | exact HB.out)⟩
        ·replace c25 := Bool.eq_false_iff.mpr c25
         subst c25
         have H1 : (if (wrap64 (x3_1 - ((rd_T58 l0 x8_1).f2))) < 0 then (some false) else (extent_Valid.l0 kj4 l0 (wrap64 (x3_1 - ((rd_T58 l0 x8_1).f2))) l0 (l0.length : Int) (wrap64 (x8_1 + 1)))) = some r := by rw [if_neg (show ¬ (false = true) by decide)] at H; exact H
         clear H
         have H := H1
         clear H1
         by_cases c26 : (wrap64 (x3_1 - ((rd_T58 l0 x8_1).f2))) < 0
         ·rw [if_pos c26] at H
          have c26b0 : decide ((wrap64 (x3_1 - ((rd_T58 l0 x8_1).f2))) < 0) = true := decide_eq_true c26
          clear c26
          obtain rfl := Option.some.inj H
          have hcz27_0 : wc.cell? ⟨gb130, 0, none⟩ = some (.int .i64 ((rd_T58 l0 x8_1).f0)) := (blk_cell BK130.out 0).trans rfl
          have hcz27_1 : wc.cell? ⟨gb130, 1, none⟩ = some (.int .i64 ((rd_T58 l0 x8_1).f1)) := (blk_cell BK130.out 1).trans rfl
          have hcz27_2 : wc.cell? ⟨gb130, 2, none⟩ = some (.int .i64 ((rd_T58 l0 x8_1).f2)) := (blk_cell BK130.out 2).trans rfl
          have hfz27_0 := blk_frozen BK130.out 0
          have hfz27_1 := blk_frozen BK130.out 1
          have hfz27_2 := blk_frozen BK130.out 2
          go_wp2
          go_ret
          exact ⟨by first | rfl | (simp [errW_none, errW_some] <;> rfl) | (simp [*, errW_none, errW_some] <;> rfl) | (exfalso; simp_all only [aside0_iff, Option.some.injEq, reduceCtorEq]), by repeat (first | (with_reducible first | exact HB.out | apply below_alloc | apply pw_below_drewN | apply below_drew1 | refine below_set ?_ GE130.out) | exact HB.out)⟩
         ·rw [if_neg c26] at H
          have c26b0 : decide ((wrap64 (x3_1 - ((rd_T58 l0 x8_1).f2))) < 0) = false := decide_eq_false c26
          clear c26
          have H' := Aside0.mk H
          clear H
          have hcz28_0 : wc.cell? ⟨gb130, 0, none⟩ = some (.int .i64 ((rd_T58 l0 x8_1).f0)) := (blk_cell BK130.out 0).trans rfl
          have hcz28_1 : wc.cell? ⟨gb130, 1, none⟩ = some (.int .i64 ((rd_T58 l0 x8_1).f1)) := (blk_cell BK130.out 1).trans rfl
          have hcz28_2 : wc.cell? ⟨gb130, 2, none⟩ = some (.int .i64 ((rd_T58 l0 x8_1).f2)) := (blk_cell BK130.out 2).trans rfl
          have hfz28_0 := blk_frozen BK130.out 0
          have hfz28_1 := blk_frozen BK130.out 1
          have hfz28_2 := blk_frozen BK130.out 2
          go_wp2
          go_roundg kj4
          case measure => have := HK1.out; have := HJ4.out; omega
          case rel => exact ⟨(wrap64 (x3_1 - ((rd_T58 l0 x8_1).f2))), (wrap64 (x8_1 + 1)), (by first | rfl | (simp; done) | (simp [*]; done)), (by first | rfl | (simp; done) | (simp [*]; done)), H', ⟨by have := HK1.out; have := HJ4.out; omega⟩, ⟨by repeat (first | (with_reducible first | exact HB.out | apply below_alloc | apply pw_below_drewN | apply below_drew1 | refine below_set ?_ GE130.out) | exact HB.out)⟩⟩
     ·rw [if_neg c4] at H
      exact absurd H (by simp)
    ·rw [if_neg c3] at H
     exact absurd H (by simp)
   ·rw [if_neg c2] at H
    have c2b0 : decide (x8_1 < (l0.length : Int)) = false := decide_eq_false c2
    clear c2
    obtain rfl := Option.some.inj H
    go_wp2
    go_ret
    exact ⟨by first | rfl | (simp [errW_none, errW_some] <;> rfl) | (simp [*, errW_none, errW_some] <;> rfl) | (exfalso; simp_all only [aside0_iff, Option.some.injEq, reduceCtorEq]), by repeat (first | (with_reducible first | exact HB.out | apply below_alloc | apply pw_below_drewN | apply below_drew1) | exact HB.out)⟩

-- NOT PRINTED: function 61 (api_Piece_61)

-- NOT PRINTED: function 53 (extent_piece)

/-! ### extent_Put: function 38, by hand -/
section
open Go.RowKit Go.Shelf Go.Proofs.YtfhjbhbmbnnimaaW.PrintWords Go.Proofs.YtfhjbhbmbnnimaaW.PrintLast Go.Proofs.YtfhjbhbmbnnimaaW.PrintMore Go.Proofs.Ytfhjbhbmbnnimaa.Rng

def extent_Put.f (l0 : List S58) (off id n : Int) : Option (List S58 × Int) :=
 (extent_Valid.f (10 * l0.length + 10) l0).bind fun t =>
  if t = true then
   if id < 1 then some ([], 1) else if id ≥ 4096 then some ([], 1) else if off < 0 then some ([], 1) else if n < 1 then some ([], 1) else
   if off > 1048576 then some ([], 2) else if n > wrap64 (1048576 - off) then some ([], 2) else
   (joinAll [] (betw l0 0 off ++ ([⟨0, 0, wrap64 (off - sizeW l0)⟩] ++ ([⟨id, 0, n⟩] ++ betw l0 (wrap64 (off + n)) 1048576)))).bind fun r => some (r, 0)
  else some ([], 80)

theorem below_undrew {w w' : World} (h : Below w.drew.heap.size w.drew w') : Below w.heap.size w w' := ⟨h.os, h.tape, h.output, h.size, h.block⟩

theorem three_keep {g : Nat} {a b c : Value} {W W' : World} (h : W.cell? ⟨g, 0, none⟩ = some a ∧ W.cell? ⟨g, 1, none⟩ = some b ∧ W.cell? ⟨g, 2, none⟩ = some c) (hb : Below W.heap.size W W') : W'.cell? ⟨g, 0, none⟩ = some a ∧ W'.cell? ⟨g, 1, none⟩ = some b ∧ W'.cell? ⟨g, 2, none⟩ = some c :=
 ⟨(hb.cell (World.block_lt_of_cell? _ _ h.1)).trans h.1, (hb.cell (World.block_lt_of_cell? _ _ h.2.1)).trans h.2.1, (hb.cell (World.block_lt_of_cell? _ _ h.2.2)).trans h.2.2⟩

theorem put_srcs {A0 : Option Addr} {c0 : Nat} {l0 : List S58} {off id n d lo2 hi2 : Int} {w3 w4 w5 w6 w7 : World} {o : Obj} {gb gs ga gt gc gd : Nat} (hr3 : Kd.C k58 w3 A0 l0.length l0) (hc0 : l0.length ≤ c0)
  (hb4 : Below w3.heap.size w3 w4) (hb5 : Below w4.heap.size w4 w5) (hb6 : Below w5.heap.size w5 w6) (hb7 : Below w6.heap.size w6 w7)
  (hgb : w3.heap.size ≤ gb) (hxb : w4.cell? ⟨gb, 0, none⟩ = some (.slice A0 l0.length c0)) (hxl : Boxed w4 (gb + 1) 3 (.int .i64 0)) (hxh : Boxed w4 (gb + 2) 3 (.int .i64 off))
  (hgs : w4.heap.size ≤ gs) (hga : w4.heap.size ≤ ga) (hxs : w5.cell? ⟨gs, 0, none⟩ = some (.slice (some ⟨ga, 0, none⟩) 1 1)) (hxa : w5.heap[ga]? = some (.cells #[.int .i64 0, .int .i64 0, .int .i64 d] 58 (0, 0)))
  (hgt : w5.heap.size ≤ gt) (hgc : w5.heap.size ≤ gc) (hys : w6.cell? ⟨gt, 0, none⟩ = some (.slice (some ⟨gc, 0, none⟩) 1 1)) (hya : w6.heap[gc]? = some (.cells #[.int .i64 id, .int .i64 0, .int .i64 n] 58 (0, 0)))
  (hgd : w6.heap.size ≤ gd) (hyb : w7.cell? ⟨gd, 0, none⟩ = some (.slice A0 l0.length c0)) (hyl : Boxed w7 (gd + 1) 3 (.int .i64 lo2)) (hyh : Boxed w7 (gd + 2) 3 (.int .i64 hi2)) :
  ∀ s ∈ [(itBetw gb w3.heap.size l0 0 off, w3.heap.size, w4.heap.size), (itOne gs ga ⟨0, 0, d⟩, w4.heap.size, w5.heap.size), (itOne gt gc ⟨id, 0, n⟩, w5.heap.size, w6.heap.size), (itBetw gd w3.heap.size l0 lo2 hi2, w6.heap.size, w7.heap.size)],
   SrcOk w3 (w7.alloc o) s.1 s.2.1 s.2.2 := by
 have z4 := hb4.size
 have z5 := hb5.size
 have z6 := hb6.size
 have z7 := hb7.size
 intro s hs
 simp only [List.mem_cons, List.not_mem_nil, or_false] at hs
 rcases hs with rfl | rfl | rfl | rfl
 ·exact (srcBetw (w := w3) hb4 hr3 hc0 hgb (Nat.le_refl _) hxb hxl hxh).later (below_alloc (below_step (below_step hb5 hb6) hb7) _) z4
 ·exact (srcOne (w := w4) (p := ⟨0, 0, d⟩) z4 hgs hga hxs hxa).later (below_alloc (below_step hb6 hb7) _) (by omega)
 ·exact (srcOne (w := w5) (p := ⟨id, 0, n⟩) (by omega) hgt hgc hys hya).later (below_alloc hb7 _) (by omega)
 ·exact (srcBetw (w := w6) (below_step (below_step (below_step hb4 hb5) hb6) hb7) hr3 hc0 hgd (by omega) hyb hyl hyh).later (below_alloc (Below.refl _ _) _) (by omega)

set_option maxHeartbeats 8000000 in
set_option maxRecDepth 100000 in
theorem extent_Put.calls (A0 : Option Addr) (c0 : Nat) (l0 : List (S58)) (off id n : Int) (r1 : List (S58)) (r2 : Int) (w : World) (hr0 : Kd.C k58 w A0 l0.length l0) (hc0 : l0.length ≤ c0) (h : extent_Put.f l0 off id n = some (r1, r2)) :
  Calls Try.prog 38 #[.slice A0 l0.length c0, .int .i64 off, .int .i64 id, .int .i64 n] w fun e w' => ∃ v0_ : Value, e = .returned (.tuple #[v0_, .int .i64 r2]) ∧ Kd.R k58 58 w' w.heap.size (fun _ => True) v0_ r1 ∧ Below w.heap.size w w' := by
 have hu58 := Try.underlying58
 have HS := Aside0.mk (size_all l0 hr0.2.1)
 have HR0 := Aside0.mk hr0
 clear hr0
 unfold extent_Put.f at h
 obtain ⟨t, hv, h⟩ := Option.bind_eq_some_iff.mp h
 have HV := Aside0.mk hv
 clear hv
 generalize sizeW l0 = size at *
 cases t with
 | false =>
  rw [if_neg (by decide)] at h
  obtain ⟨rfl, rfl⟩ := Prod.mk.inj (Option.some.inj h)
  clear h
  go_enter Try.func38, Try.ntmps38
  go_wp2_with (go_at_call 27; (refine (extent_Valid.calls (10 * l0.length + 10) A0 c0 l0 false _ HR0.out hc0 HV.out).mono ?_); rintro e w1 ⟨rfl, hb1⟩)
  go_ret2
  exact ⟨_, rfl, Kd.R_nil _ _ _ _ _, hb1⟩
 | true =>
  rw [if_pos rfl] at h
  by_cases q0 : id < 1
  ·rw [if_pos q0] at h
   obtain ⟨rfl, rfl⟩ := Prod.mk.inj (Option.some.inj h)
   clear h
   have e0 : decide (id < 1) = true := decide_eq_true q0
   go_enter Try.func38, Try.ntmps38
   go_wp2_with (go_at_call 27; (refine (extent_Valid.calls (10 * l0.length + 10) A0 c0 l0 true _ HR0.out hc0 HV.out).mono ?_); rintro e w1 ⟨rfl, hb1⟩)
   go_ret2
   exact ⟨_, rfl, Kd.R_nil _ _ _ _ _, hb1⟩
  rw [if_neg q0] at h
  have e0 : decide (id < 1) = false := decide_eq_false q0
  by_cases q1 : id ≥ 4096
  ·rw [if_pos q1] at h
   obtain ⟨rfl, rfl⟩ := Prod.mk.inj (Option.some.inj h)
   clear h
   have e1 : decide (4096 ≤ id) = true := decide_eq_true q1
   go_enter Try.func38, Try.ntmps38
   go_wp2_with (go_at_call 27; (refine (extent_Valid.calls (10 * l0.length + 10) A0 c0 l0 true _ HR0.out hc0 HV.out).mono ?_); rintro e w1 ⟨rfl, hb1⟩)
   go_ret2
   exact ⟨_, rfl, Kd.R_nil _ _ _ _ _, hb1⟩
  rw [if_neg q1] at h
  have e1 : decide (4096 ≤ id) = false := decide_eq_false q1
  by_cases q2 : off < 0
  ·rw [if_pos q2] at h
   obtain ⟨rfl, rfl⟩ := Prod.mk.inj (Option.some.inj h)
   clear h
   have e2 : decide (off < 0) = true := decide_eq_true q2
   go_enter Try.func38, Try.ntmps38
   go_wp2_with (go_at_call 27; (refine (extent_Valid.calls (10 * l0.length + 10) A0 c0 l0 true _ HR0.out hc0 HV.out).mono ?_); rintro e w1 ⟨rfl, hb1⟩)
   go_ret2
   exact ⟨_, rfl, Kd.R_nil _ _ _ _ _, hb1⟩
  rw [if_neg q2] at h
  have e2 : decide (off < 0) = false := decide_eq_false q2
  by_cases q3 : n < 1
  ·rw [if_pos q3] at h
   obtain ⟨rfl, rfl⟩ := Prod.mk.inj (Option.some.inj h)
   clear h
   have e3 : decide (n < 1) = true := decide_eq_true q3
   go_enter Try.func38, Try.ntmps38
   go_wp2_with (go_at_call 27; (refine (extent_Valid.calls (10 * l0.length + 10) A0 c0 l0 true _ HR0.out hc0 HV.out).mono ?_); rintro e w1 ⟨rfl, hb1⟩)
   go_ret2
   exact ⟨_, rfl, Kd.R_nil _ _ _ _ _, hb1⟩
  rw [if_neg q3] at h
  have e3 : decide (n < 1) = false := decide_eq_false q3
  by_cases q4 : off > 1048576
  ·rw [if_pos q4] at h
   obtain ⟨rfl, rfl⟩ := Prod.mk.inj (Option.some.inj h)
   clear h
   have e4 : decide (1048576 < off) = true := decide_eq_true q4
   go_enter Try.func38, Try.ntmps38
   go_wp2_with (go_at_call 27; (refine (extent_Valid.calls (10 * l0.length + 10) A0 c0 l0 true _ HR0.out hc0 HV.out).mono ?_); rintro e w1 ⟨rfl, hb1⟩)
   go_ret2
   exact ⟨_, rfl, Kd.R_nil _ _ _ _ _, hb1⟩
  rw [if_neg q4] at h
  have e4 : decide (1048576 < off) = false := decide_eq_false q4
  have hw : wrap64 (1048576 - off) = 1048576 - off := by unfold wrap64; omega
  rw [hw] at h
  by_cases q5 : n > 1048576 - off
  ·rw [if_pos q5] at h
   obtain ⟨rfl, rfl⟩ := Prod.mk.inj (Option.some.inj h)
   clear h
   have e5 : decide (1048576 - off < n) = true := decide_eq_true q5
   go_enter Try.func38, Try.ntmps38
   go_wp2_with (go_at_call 27; (refine (extent_Valid.calls (10 * l0.length + 10) A0 c0 l0 true _ HR0.out hc0 HV.out).mono ?_); rintro e w1 ⟨rfl, hb1⟩)
   go_ret2
   exact ⟨_, rfl, Kd.R_nil _ _ _ _ _, hb1⟩
  rw [if_neg q5] at h
  have e5 : decide (1048576 - off < n) = false := decide_eq_false q5
  obtain ⟨r, h1, h2⟩ := Option.bind_eq_some_iff.mp h
  obtain ⟨rfl, rfl⟩ := Prod.mk.inj (Option.some.inj h2)
  have H := Aside0.mk h1
  clear h h1 h2
  go_enter Try.func38, Try.ntmps38
  go_wp2_with (first | (go_at_call 27; (refine (extent_Valid.calls (10 * l0.length + 10) A0 c0 l0 true _ HR0.out hc0 HV.out).mono ?_); rintro e w1 ⟨rfl, hb1⟩) | (go_at_call 19; (refine (extent_Size.calls (l0.length + 1) A0 c0 l0 size _ (Kd.C_below HR0.out hb1) hc0 HS.out).mono ?_); rintro e w2 ⟨rfl, hb2⟩))
  have hg0 : (w2.alloc (.cells #[.int .i64 0, .int .i64 0, .int .i64 (wrap64 (off - size))] 58)).cell? ⟨w2.heap.size, 0, none⟩ = some (.int .i64 0) ∧ (w2.alloc (.cells #[.int .i64 0, .int .i64 0, .int .i64 (wrap64 (off - size))] 58)).cell? ⟨w2.heap.size, 1, none⟩ = some (.int .i64 0) ∧ (w2.alloc (.cells #[.int .i64 0, .int .i64 0, .int .i64 (wrap64 (off - size))] 58)).cell? ⟨w2.heap.size, 2, none⟩ = some (.int .i64 (wrap64 (off - size))) := by
   refine ⟨?_, ?_, ?_⟩ <;> (rw [World.cell?_alloc_new]; rfl)
  have hb3 : Below w.heap.size w (w2.alloc (.cells #[.int .i64 0, .int .i64 0, .int .i64 (wrap64 (off - size))] 58)) := below_alloc (below_step hb1 hb2) _
  generalize w2.alloc (.cells #[.int .i64 0, .int .i64 0, .int .i64 (wrap64 (off - size))] 58) = w3 at *
  have hr3 := Aside0.mk (Kd.C_below HR0.out hb3)
  generalize w2.heap.size = gz at *
  clear hb1 hb2
  go_region_held3 (fun W => W.cell? ⟨gz, 0, none⟩ = some (.int .i64 0) ∧ W.cell? ⟨gz, 1, none⟩ = some (.int .i64 0) ∧ W.cell? ⟨gz, 2, none⟩ = some (.int .i64 (wrap64 (off - size))))
   (first | exact hg0 | exact three_keep hg0 hb4 | exact three_keep hg0 (below_step hb4 hb5) | exact three_keep hg0 (below_step (below_step hb4 hb5) hb6) | exact three_keep hg0 (below_step (below_step (below_step hb4 hb5) hb6) hb7) | exact three_keep hg0 (below_alloc (below_step (below_step (below_step hb4 hb5) hb6) hb7) _) | exact three_keep hg0 hb8)
   (first | (have := hb6; go_at_call 33; (refine (between_calls A0 c0 l0.length _ _ _).mono ?_); rintro e w7 ⟨gd, hgd, rfl, hb7, hyb, hyl, hyh⟩) | (go_at_call 33; (refine (between_calls A0 c0 l0.length _ _ _).mono ?_); rintro e w4 ⟨gb, hgb, rfl, hb4', hxb, hxl, hxh⟩; have hb4 := below_undrew hb4'; clear hb4') | (have := hb5; go_at_call 53; (refine (piece_calls ⟨id, 0, n⟩ _).mono ?_); rintro e w6 ⟨gt, gc, rfl, hb6, hgt, hgc, hys, hya⟩) | (go_at_call 53; (refine (piece_calls ⟨0, 0, wrap64 (off - size)⟩ _).mono ?_); rintro e w5 ⟨gs, ga, rfl, hb5, hgs, hga, hxs, hxa⟩) | (go_at_call 32; (refine (body_list [(itBetw gb w3.heap.size l0 0 off, w3.heap.size, w4.heap.size), (itOne gs ga ⟨0, 0, wrap64 (off - size)⟩, w4.heap.size, w5.heap.size), (itOne gt gc ⟨id, 0, n⟩, w5.heap.size, w6.heap.size), (itBetw gd w3.heap.size l0 (wrap64 (off + n)) 1048576, w6.heap.size, w7.heap.size)] w7.heap.size r w3 _ (below_alloc (below_step (below_step (below_step hb4 hb5) hb6) hb7) _) (by simp) ?kL ?kP ?kQ (by simp) ?kX ?kJ).mono ?_); (case kL => exact put_srcs hr3.out hc0 hb4 hb5 hb6 hb7 hgb hxb hxl hxh hgs hga hxs hxa hgt hgc hys hya hgd hyb (by rw [i64_w] at hyl; exact hyl) hyh); (case kP => have z4 := hb4.size; have z5 := hb5.size; have z6 := hb6.size; have z7 := hb7.size; simp; omega); (case kQ => intro s hs; have z4 := hb4.size; have z5 := hb5.size; have z6 := hb6.size; have z7 := hb7.size; simp only [List.mem_cons, List.not_mem_nil, or_false] at hs; (rcases hs with rfl | rfl | rfl | rfl) <;> dsimp only <;> omega); (case kX => intro i s hs; (rcases i with _ | _ | _ | _ | i) <;> first | (obtain rfl := Option.some.inj hs; rw [World.cell?_alloc_new]; rfl) | (simp at hs)); (case kJ => simpa [itBetw, itOne] using H.out); rintro e w8 ⟨v8, rfl, hv8, hb8⟩))
  go_wp2
  go_ret2
  exact ⟨_, rfl, Kd.R_lower hv8 hb3.size, hb3.trans (Below.mono hb8 hb3.size)⟩

end

end Go.Proofs.Ytfhjbhbmbnnimaa.PE
