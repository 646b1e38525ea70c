/- Plain Lean functions with the answers of the Go functions that these laws reach, and proofs that the calls come to them; written by this session's program. -/
import Derived.Test.YtfhjbhbmbnnimaaPEx0
import Derived.Test.YtfhjbhbmbnnimaaPEx3
import Derived.Test.YtfhjbhbmbnnimaaPEx5
import Derived.Test.YtfhjbhbmbnnimaaPEx7
namespace Go.Proofs.Ytfhjbhbmbnnimaa.PE
open Go.RowKit Go.Proofs.YtfhjbhbmbnnimaaW.PrintWords Go.Proofs.YtfhjbhbmbnnimaaW.PrintLast Go.Proofs.YtfhjbhbmbnnimaaW.PrintMore
attribute [local go_sem] max2_int min2_int max_two min_two max_three min_three max_four min_four   -- for this text's walks alone
set_option linter.unusedVariables false
set_option linter.unusedSimpArgs false

/-! ### l08_put: function 20 -/
def l08_put.f (l0 : List (S58)) (a1 : Int) (a2 : Int) (a3 : Int) : Option ((List (S58)) × Int) := (extent_Put.f l0 a1 a2 a3).bind fun bt137 => (some (bt137.1, bt137.2))
set_option maxHeartbeats 8000000 in
set_option maxRecDepth 100000 in
theorem l08_put.calls (A0 : Option Addr) (c0 : Nat) (l0 : List (S58)) (a1 : Int) (a2 : Int) (a3 : Int) (r1 : List (S58)) (r2 : Int) (w : World) (hr0 : Kd.C k58 w A0 l0.length l0) (hc0 : l0.length ≤ c0) (h : l08_put.f l0 a1 a2 a3 = some (r1, r2)) :
  Calls Try.prog 20 #[.slice A0 l0.length c0, .int .i64 a1, .int .i64 a2, .int .i64 a3] w fun e w' => ∃ v0_ : Value, e = .returned (.agg #[v0_, .int .i64 r2]) ∧ Kd.R k58 58 w' w.heap.size (fun _ => True) v0_ r1 ∧ Below w.heap.size w w' := by
 have hu40 := Try.underlying40
 have HR0 := Aside0.mk hr0
 have HC0 := Aside0.mk hc0
 clear hr0 hc0
 have HB := Aside0.mk (Below.refl w.heap.size w)
 have H : ((extent_Put.f l0 a1 a2 a3).bind fun bt137 => (some (bt137.1, bt137.2))) = some (r1, r2) := h
 clear h
 replace H := Option.bind_eq_some_iff.mp H
 obtain ⟨⟨t137, t138⟩, A50, H⟩ := H
 replace H : (some (t137, t138)) = some (r1, r2) := H
 have A5 := Aside0.mk A50
 clear A50
 simp only [Option.some.injEq, Prod.mk.injEq] at H
 obtain ⟨rfl, rfl⟩ := H
 go_enter Try.func20, Try.ntmps20
 go_wp2_with (first | ((with_reducible refine gate_dst (N := 8) rfl ?_); refine box_event ?hg (N := 8) ?hd (cs := #[.slice none 0 0, .int .i64 0]) (t := 40) ?hr ?_; (case hd => rfl); (case hg => rfl); (case hr => first | (go_simp; done) | (go_simp; rfl)); intro gb136 hg w6 hbox hb; have n0_ := Aside0.mk (below_step (by repeat (first | (with_reducible first | exact HB.out | apply below_alloc | apply pw_below_drewN | apply below_drew1) | exact HB.out)) hb); have n1_ := Aside0.mk (hbox); have n2_ := Aside0.mk ((by rw [hg]; exact (below_size (by repeat (first | (with_reducible first | exact HB.out | apply below_alloc | apply pw_below_drewN | apply below_drew1) | exact HB.out))) : w.heap.size ≤ gb136)); have n3_ := Aside0.mk ((by rw [hg]; exact (below_size (by repeat (first | (with_reducible first | exact HB.out | apply below_alloc | apply pw_below_drewN | apply below_drew1) | exact HB.out))) : w.heap.size ≤ gb136)); clear HB; have HB := n0_; have BK136 := n1_; have GW136 := n2_; have GE136 := n3_; clear n0_ n1_ n2_ n3_; clear hb hbox hg) | ((with_reducible refine gate_callee (f := 38) rfl ?_); refine goesL_ (some 16) rfl rfl Try.func38 (by kernel_rfl) rfl #[.slice A0 l0.length c0, .int .i64 a1, .int .i64 a2, .int .i64 a3] rfl (by (try simp only [List.map_toArray, List.map_cons, List.map_nil]); first | done | rfl | (simp only [List.length_drop, List.length_take]; rfl)) ?_; (with_reducible refine (extent_Put.calls _ _ l0 a1 a2 a3 t137 t138 _ ?side1 ?side2 A5.out).mono ?_); (case side1 => repeat (first | exact (Kd.C_below HR0.out HB.out) | (with_reducible refine Kd.C_alloc ?_ _) | (with_reducible refine Kd.C_drewN ?_ _) | (with_reducible refine Kd.C_drew ?_))); (case side2 => exact HC0.out); rintro e w7 ⟨v139, rfl, ho0, hb⟩; refine ⟨_, rfl, ?_⟩; have n0_ := Aside0.mk (Kd.R_lower ho0 (below_size (by repeat (first | (with_reducible first | exact HB.out | apply below_alloc | apply pw_below_drewN | apply below_drew1 | refine below_set ?_ GE136.out) | exact HB.out)))); have n1_ := Aside0.mk (blk_below (g := gb136) (o := .cells #[.slice none 0 0, .int .i64 0] 40 (0, 0)) (by (with_reducible repeat (first | refine blk_drewN ?_ _ | refine blk_drew ?_ | refine blk_alloc ?_ _)); exact BK136.out) hb); have n2_ := Aside0.mk (below_step (by repeat (first | (with_reducible first | exact HB.out | apply below_alloc | apply pw_below_drewN | apply below_drew1 | refine below_set ?_ GE136.out) | exact HB.out)) hb); clear BK136; clear HB; have HO140 := n0_; have BK136 := n1_; have HB := n2_; clear n0_ n1_ n2_; (try clear hb); (try clear hb2); (try clear hk); (try clear hi); (try clear ho0); obtain ⟨Ao8, co8, eo8⟩ := Kd.R_slice HO140.out; subst eo8; have hcz9_0 : w7.cell? ⟨gb136, 0, none⟩ = some (.slice none 0 0) := (blk_cell BK136.out 0).trans rfl; have hcz9_1 : w7.cell? ⟨gb136, 1, none⟩ = some (.int .i64 0) := (blk_cell BK136.out 1).trans rfl; have hfz9_0 := blk_frozen BK136.out 0; have hfz9_1 := blk_frozen BK136.out 1))
 refine bodyPost_ret (results_cell_row rfl _ _ gb136 40 #[.slice Ao8 t137.length co8, .int .i64 t138] (0, 0) _ rfl (by (with_reducible repeat (first | refine blk_drewN ?_ _ | refine blk_drew ?_ | refine blk_alloc ?_ _)); refine blk_put (cs := #[.slice Ao8 t137.length co8, .int .i64 0]) ?_ 1 _ rfl; (with_reducible repeat (first | refine blk_drewN ?_ _ | refine blk_drew ?_ | refine blk_alloc ?_ _)); refine blk_put (cs := #[.slice none 0 0, .int .i64 0]) ?_ 0 _ rfl; (with_reducible repeat (first | refine blk_drewN ?_ _ | refine blk_drew ?_ | refine blk_alloc ?_ _)); exact BK136.out) Try.underlying40 rfl (by kernel_rfl)) rfl ?_
 exact ⟨_, by first | rfl | (simp [errW_none, errW_some] <;> rfl) | (simp [*, errW_none, errW_some] <;> rfl) | (exfalso; simp_all only [aside0_iff, Option.some.injEq, reduceCtorEq]), by (with_reducible repeat (first | apply Kd.R_alloc | apply Kd.R_drewN | apply Kd.R_drew)); exact Kd.R_mono (Kd.R_far (p := ⟨gb136, 1, none⟩) (Kd.R_far (p := ⟨gb136, 0, none⟩) (Kd.R_types HO140.out BK136.out (by decide)) (fun _ hk => hk.2) (.slice Ao8 t137.length co8)) (fun _ hk => hk.2) (.int .i64 t138)) (fun _ hk => trivial), by repeat (first | (with_reducible first | exact HB.out | apply below_alloc | apply pw_below_drewN | apply below_drew1 | refine below_set ?_ GE136.out) | exact HB.out)⟩

/-! ### l08_same: function 22 -/
def l08_same.f (k : Nat) (l0_0 : List (S58)) (a0_1 : Int) (l1_0 : List (S58)) (a1_1 : Int) : Option (Bool) := (r08_Same.f k l0_0 l1_0).bind fun t143 => (if t143 = true then (some (a0_1 == a1_1)) else (some false))
theorem l08_same.mono : ∀ a0 a1 a2 a3 k, LeO (l08_same.f k a0 a1 a2 a3) (l08_same.f (k + 1) a0 a1 a2 a3) := by
 intro a0 a1 a2 a3 k
 unfold l08_same.f
 repeat' first
   | (with_reducible exact r08_Same.mono _ _ _)
   | (with_reducible exact LeO.refl _)
   | (with_reducible exact LeO.none _)
   | (with_reducible refine LeO.ite ?_ ?_)
   | (with_reducible refine LeO.bind ?_ (fun _ => ?_))
   | exact r08_Same.mono _ _ _
   | exact LeO.none _
   | refine LeO.ite ?_ ?_
   | refine LeO.bind ?_ (fun _ => ?_)
set_option maxHeartbeats 8000000 in
set_option maxRecDepth 100000 in
theorem l08_same.calls (k : Nat) (A0_0 : Option Addr) (c0_0 : Nat) (l0_0 : List (S58)) (a0_1 : Int) (A1_0 : Option Addr) (c1_0 : Nat) (l1_0 : List (S58)) (a1_1 : Int) (r : Bool) (w : World) (hr0_0 : Kd.C k58 w A0_0 l0_0.length l0_0) (hc0_0 : l0_0.length ≤ c0_0) (hr1_0 : Kd.C k58 w A1_0 l1_0.length l1_0) (hc1_0 : l1_0.length ≤ c1_0) (h : l08_same.f k l0_0 a0_1 l1_0 a1_1 = some r) :
  Calls Try.prog 22 #[.agg #[.slice A0_0 l0_0.length c0_0, .int .i64 a0_1], .agg #[.slice A1_0 l1_0.length c1_0, .int .i64 a1_1]] w fun e w' => e = .returned (.bool r) ∧ Below w.heap.size w w' := by
 have hu40 := Try.underlying40
 have HR0_0 := Aside0.mk hr0_0
 have HC0_0 := Aside0.mk hc0_0
 clear hr0_0 hc0_0
 have HR1_0 := Aside0.mk hr1_0
 have HC1_0 := Aside0.mk hc1_0
 clear hr1_0 hc1_0
 have HB := Aside0.mk (Below.refl w.heap.size w)
 have H : ((r08_Same.f k l0_0 l1_0).bind fun t143 => (if t143 = true then (some (a0_1 == a1_1)) else (some false))) = some r := h
 clear h
 replace H := Option.bind_eq_some_iff.mp H
 obtain ⟨t143, A30, H⟩ := H
 replace H : (if t143 = true then (some (a0_1 == a1_1)) else (some false)) = some r := H
 have A3 := Aside0.mk A30
 clear A30
 by_cases c4 : t143 = true
 ·subst c4
  have H1 : (some (a0_1 == a1_1)) = some r := by rw [if_pos rfl] at H; exact H
  clear H
  have H := H1
  clear H1
  obtain rfl := Option.some.inj H
  go_enter Try.func22, Try.ntmps22
  go_wp2_with (first | ((with_reducible refine gate_dst (N := 2) rfl ?_); refine box_event ?hg (N := 2) ?hd (cs := #[.slice A0_0 l0_0.length c0_0, .int .i64 a0_1]) (t := 40) ?hr ?_; (case hd => rfl); (case hg => rfl); (case hr => first | (go_simp; done) | (go_simp; rfl)); intro gb141 hg w5 hbox hb; have n0_ := Aside0.mk (below_step (by repeat (first | (with_reducible first | exact HB.out | apply below_alloc | apply pw_below_drewN | apply below_drew1) | exact HB.out)) hb); have n1_ := Aside0.mk (hbox); have n2_ := Aside0.mk ((by rw [hg]; exact (below_size (by repeat (first | (with_reducible first | exact HB.out | apply below_alloc | apply pw_below_drewN | apply below_drew1) | exact HB.out))) : w.heap.size ≤ gb141)); have n3_ := Aside0.mk ((by rw [hg]; exact (below_size (by repeat (first | (with_reducible first | exact HB.out | apply below_alloc | apply pw_below_drewN | apply below_drew1) | exact HB.out))) : w.heap.size ≤ gb141)); clear HB; have HB := n0_; have BK141 := n1_; have GW141 := n2_; have GE141 := n3_; clear n0_ n1_ n2_ n3_; clear hb hbox hg) | ((with_reducible refine gate_dst (N := 3) rfl ?_); refine box_event ?hg (N := 3) ?hd (cs := #[.slice A1_0 l1_0.length c1_0, .int .i64 a1_1]) (t := 40) ?hr ?_; (case hd => rfl); (case hg => rfl); (case hr => first | (go_simp; done) | (go_simp; rfl)); intro gb142 hg w6 hbox hb; have n0_ := Aside0.mk (blk_below (g := gb141) (o := .cells #[.slice A0_0 l0_0.length c0_0, .int .i64 a0_1] 40 (0, 0)) (by (with_reducible repeat (first | refine blk_drewN ?_ _ | refine blk_drew ?_ | refine blk_alloc ?_ _)); exact BK141.out) hb); have n1_ := Aside0.mk (below_step (by repeat (first | (with_reducible first | exact HB.out | apply below_alloc | apply pw_below_drewN | apply below_drew1 | refine below_set ?_ GE141.out) | exact HB.out)) hb); have n2_ := Aside0.mk (hbox); have n3_ := Aside0.mk ((by rw [hg]; exact (below_size (by repeat (first | (with_reducible first | exact HB.out | apply below_alloc | apply pw_below_drewN | apply below_drew1 | refine below_set ?_ GE141.out) | exact HB.out))) : w.heap.size ≤ gb142)); have n4_ := Aside0.mk ((by rw [hg]; exact (below_size (by repeat (first | (with_reducible first | exact HB.out | apply below_alloc | apply pw_below_drewN | apply below_drew1 | refine below_set ?_ GE141.out) | exact HB.out))) : w.heap.size ≤ gb142)); have n5_ := Aside0.mk ((by rw [hg]; exact Nat.ne_of_lt (blk_lt (g := gb141) (o := .cells #[.slice A0_0 l0_0.length c0_0, .int .i64 a0_1] 40 (0, 0)) (by (with_reducible repeat (first | refine blk_drewN ?_ _ | refine blk_drew ?_ | refine blk_alloc ?_ _)); exact BK141.out)) : gb141 ≠ gb142)); have n6_ := Aside0.mk ((by rw [hg]; exact Nat.ne_of_gt (blk_lt (g := gb141) (o := .cells #[.slice A0_0 l0_0.length c0_0, .int .i64 a0_1] 40 (0, 0)) (by (with_reducible repeat (first | refine blk_drewN ?_ _ | refine blk_drew ?_ | refine blk_alloc ?_ _)); exact BK141.out)) : gb142 ≠ gb141)); clear BK141; clear HB; have BK141 := n0_; have HB := n1_; have BK142 := n2_; have GW142 := n3_; have GE142 := n4_; have NB141_142 := n5_; have NB142_141 := n6_; clear n0_ n1_ n2_ n3_ n4_ n5_ n6_; clear hb hbox hg; have hnb7 := NB141_142.out; have hnc7 := NB142_141.out; have hcz8_0 : w6.cell? ⟨gb141, 0, none⟩ = some (.slice A0_0 l0_0.length c0_0) := (blk_cell BK141.out 0).trans rfl; have hcz8_1 : w6.cell? ⟨gb141, 1, none⟩ = some (.int .i64 a0_1) := (blk_cell BK141.out 1).trans rfl; have hfz8_0 := blk_frozen BK141.out 0; have hfz8_1 := blk_frozen BK141.out 1; have hcz9_0 : w6.cell? ⟨gb142, 0, none⟩ = some (.slice A1_0 l1_0.length c1_0) := (blk_cell BK142.out 0).trans rfl; have hcz9_1 : w6.cell? ⟨gb142, 1, none⟩ = some (.int .i64 a1_1) := (blk_cell BK142.out 1).trans rfl; have hfz9_0 := blk_frozen BK142.out 0; have hfz9_1 := blk_frozen BK142.out 1) | ((with_reducible refine gate_callee (f := 17) rfl ?_); refine goesL_ (some 9) rfl rfl Try.func17 (by kernel_rfl) rfl #[.slice A0_0 l0_0.length c0_0, .slice A1_0 l1_0.length c1_0] rfl (by (try simp only [List.map_toArray, List.map_cons, List.map_nil]); first | done | rfl | (simp only [List.length_drop, List.length_take]; rfl)) ?_; (with_reducible refine (r08_Same.calls k _ _ l0_0 _ _ l1_0 true _ ?side1 ?side2 ?side3 ?side4 A3.out).mono ?_); (case side1 => repeat (first | exact (Kd.C_below HR0_0.out HB.out) | (with_reducible refine Kd.C_alloc ?_ _) | (with_reducible refine Kd.C_drewN ?_ _) | (with_reducible refine Kd.C_drew ?_))); (case side2 => exact HC0_0.out); (case side3 => repeat (first | exact (Kd.C_below HR1_0.out HB.out) | (with_reducible refine Kd.C_alloc ?_ _) | (with_reducible refine Kd.C_drewN ?_ _) | (with_reducible refine Kd.C_drew ?_))); (case side4 => exact HC1_0.out); rintro e w' ⟨rfl, ⟨nd, rfl⟩⟩; refine ⟨_, rfl, ?_⟩))
  go_ret
  exact ⟨by first | rfl | (simp [errW_none, errW_some] <;> rfl) | (simp [*, errW_none, errW_some] <;> rfl) | (exfalso; simp_all only [aside0_iff, Option.some.injEq, reduceCtorEq]), by repeat (first | (with_reducible first | exact HB.out | apply below_alloc | apply pw_below_drewN | apply below_drew1 | refine below_set ?_ GE141.out | refine below_set ?_ GE142.out) | exact HB.out)⟩
 ·replace c4 := Bool.eq_false_iff.mpr c4
  subst c4
  have H1 : (some false) = some r := by rw [if_neg (show ¬ (false = true) by decide)] at H; exact H
  clear H
  have H := H1
  clear H1
  obtain rfl := Option.some.inj H
  go_enter Try.func22, Try.ntmps22
  go_wp2_with (first | ((with_reducible refine gate_dst (N := 2) rfl ?_); refine box_event ?hg (N := 2) ?hd (cs := #[.slice A0_0 l0_0.length c0_0, .int .i64 a0_1]) (t := 40) ?hr ?_; (case hd => rfl); (case hg => rfl); (case hr => first | (go_simp; done) | (go_simp; rfl)); intro gb141 hg w10 hbox hb; have n0_ := Aside0.mk (below_step (by repeat (first | (with_reducible first | exact HB.out | apply below_alloc | apply pw_below_drewN | apply below_drew1) | exact HB.out)) hb); have n1_ := Aside0.mk (hbox); have n2_ := Aside0.mk ((by rw [hg]; exact (below_size (by repeat (first | (with_reducible first | exact HB.out | apply below_alloc | apply pw_below_drewN | apply below_drew1) | exact HB.out))) : w.heap.size ≤ gb141)); have n3_ := Aside0.mk ((by rw [hg]; exact (below_size (by repeat (first | (with_reducible first | exact HB.out | apply below_alloc | apply pw_below_drewN | apply below_drew1) | exact HB.out))) : w.heap.size ≤ gb141)); clear HB; have HB := n0_; have BK141 := n1_; have GW141 := n2_; have GE141 := n3_; clear n0_ n1_ n2_ n3_; clear hb hbox hg) | ((with_reducible refine gate_dst (N := 3) rfl ?_); refine box_event ?hg (N := 3) ?hd (cs := #[.slice A1_0 l1_0.length c1_0, .int .i64 a1_1]) (t := 40) ?hr ?_; (case hd => rfl); (case hg => rfl); (case hr => first | (go_simp; done) | (go_simp; rfl)); intro gb142 hg w11 hbox hb; have n0_ := Aside0.mk (blk_below (g := gb141) (o := .cells #[.slice A0_0 l0_0.length c0_0, .int .i64 a0_1] 40 (0, 0)) (by (with_reducible repeat (first | refine blk_drewN ?_ _ | refine blk_drew ?_ | refine blk_alloc ?_ _)); exact BK141.out) hb); have n1_ := Aside0.mk (below_step (by repeat (first | (with_reducible first | exact HB.out | apply below_alloc | apply pw_below_drewN | apply below_drew1 | refine below_set ?_ GE141.out) | exact HB.out)) hb); have n2_ := Aside0.mk (hbox); have n3_ := Aside0.mk ((by rw [hg]; exact (below_size (by repeat (first | (with_reducible first | exact HB.out | apply below_alloc | apply pw_below_drewN | apply below_drew1 | refine below_set ?_ GE141.out) | exact HB.out))) : w.heap.size ≤ gb142)); have n4_ := Aside0.mk ((by rw [hg]; exact (below_size (by repeat (first | (with_reducible first | exact HB.out | apply below_alloc | apply pw_below_drewN | apply below_drew1 | refine below_set ?_ GE141.out) | exact HB.out))) : w.heap.size ≤ gb142)); have n5_ := Aside0.mk ((by rw [hg]; exact Nat.ne_of_lt (blk_lt (g := gb141) (o := .cells #[.slice A0_0 l0_0.length c0_0, .int .i64 a0_1] 40 (0, 0)) (by (with_reducible repeat (first | refine blk_drewN ?_ _ | refine blk_drew ?_ | refine blk_alloc ?_ _)); exact BK141.out)) : gb141 ≠ gb142)); have n6_ := Aside0.mk ((by rw [hg]; exact Nat.ne_of_gt (blk_lt (g := gb141) (o := .cells #[.slice A0_0 l0_0.length c0_0, .int .i64 a0_1] 40 (0, 0)) (by (with_reducible repeat (first | refine blk_drewN ?_ _ | refine blk_drew ?_ | refine blk_alloc ?_ _)); exact BK141.out)) : gb142 ≠ gb141)); clear BK141; clear HB; have BK141 := n0_; have HB := n1_; have BK142 := n2_; have GW142 := n3_; have GE142 := n4_; have NB141_142 := n5_; have NB142_141 := n6_; clear n0_ n1_ n2_ n3_ n4_ n5_ n6_; clear hb hbox hg; have hnb12 := NB141_142.out; have hnc12 := NB142_141.out; have hcz13_0 : w11.cell? ⟨gb141, 0, none⟩ = some (.slice A0_0 l0_0.length c0_0) := (blk_cell BK141.out 0).trans rfl; have hcz13_1 : w11.cell? ⟨gb141, 1, none⟩ = some (.int .i64 a0_1) := (blk_cell BK141.out 1).trans rfl; have hfz13_0 := blk_frozen BK141.out 0; have hfz13_1 := blk_frozen BK141.out 1; have hcz14_0 : w11.cell? ⟨gb142, 0, none⟩ = some (.slice A1_0 l1_0.length c1_0) := (blk_cell BK142.out 0).trans rfl; have hcz14_1 : w11.cell? ⟨gb142, 1, none⟩ = some (.int .i64 a1_1) := (blk_cell BK142.out 1).trans rfl; have hfz14_0 := blk_frozen BK142.out 0; have hfz14_1 := blk_frozen BK142.out 1) | ((with_reducible refine gate_callee (f := 17) rfl ?_); refine goesL_ (some 9) rfl rfl Try.func17 (by kernel_rfl) rfl #[.slice A0_0 l0_0.length c0_0, .slice A1_0 l1_0.length c1_0] rfl (by (try simp only [List.map_toArray, List.map_cons, List.map_nil]); first | done | rfl | (simp only [List.length_drop, List.length_take]; rfl)) ?_; (with_reducible refine (r08_Same.calls k _ _ l0_0 _ _ l1_0 false _ ?side1 ?side2 ?side3 ?side4 A3.out).mono ?_); (case side1 => repeat (first | exact (Kd.C_below HR0_0.out HB.out) | (with_reducible refine Kd.C_alloc ?_ _) | (with_reducible refine Kd.C_drewN ?_ _) | (with_reducible refine Kd.C_drew ?_))); (case side2 => exact HC0_0.out); (case side3 => repeat (first | exact (Kd.C_below HR1_0.out HB.out) | (with_reducible refine Kd.C_alloc ?_ _) | (with_reducible refine Kd.C_drewN ?_ _) | (with_reducible refine Kd.C_drew ?_))); (case side4 => exact HC1_0.out); rintro e w' ⟨rfl, ⟨nd, rfl⟩⟩; refine ⟨_, rfl, ?_⟩))
  go_ret
  exact ⟨by first | rfl | (simp [errW_none, errW_some] <;> rfl) | (simp [*, errW_none, errW_some] <;> rfl) | (exfalso; simp_all only [aside0_iff, Option.some.injEq, reduceCtorEq]), by repeat (first | (with_reducible first | exact HB.out | apply below_alloc | apply pw_below_drewN | apply below_drew1 | refine below_set ?_ GE141.out | refine below_set ?_ GE142.out) | exact HB.out)⟩

/-! ### extent_Cut: function 39, by hand -/
section
open Go.RowKit Go.Shelf Go.Proofs.YtfhjbhbmbnnimaaW.PrintWords Go.Proofs.YtfhjbhbmbnnimaaW.PrintLast Go.Proofs.YtfhjbhbmbnnimaaW.PrintMore Go.Proofs.Ytfhjbhbmbnnimaa.Rng
attribute [local go_sem high] max2_mx min2_mn

def extent_Cut.f (l0 : List S58) (n : Int) : Option (List S58 × Int) :=
 (extent_Valid.f (10 * l0.length + 10) l0).bind fun t =>
  if t = true then
   if n < 0 then some ([], 1) else if n > 1048576 then some ([], 2) else
   (joinAll [] (betw l0 0 n ++ [⟨0, 0, wrap64 (n - sizeW l0)⟩])).bind fun r => some (r, 0)
  else some ([], 80)

set_option maxHeartbeats 8000000 in
set_option maxRecDepth 100000 in
theorem extent_Cut.calls (A0 : Option Addr) (c0 : Nat) (l0 : List (S58)) (n : Int) (r1 : List (S58)) (r2 : Int) (w : World) (hr0 : Kd.C k58 w A0 l0.length l0) (hc0 : l0.length ≤ c0) (h : extent_Cut.f l0 n = some (r1, r2)) :
  Calls Try.prog 39 #[.slice A0 l0.length c0, .int .i64 n] w fun e w' => ∃ v0_ : Value, e = .returned (.tuple #[v0_, .int .i64 r2]) ∧ Kd.R k58 58 w' w.heap.size (fun _ => True) v0_ r1 ∧ Below w.heap.size w w' := by
 have HS := Aside0.mk (size_all l0 hr0.2.1)
 have HR0 := Aside0.mk hr0
 clear hr0
 unfold extent_Cut.f at h
 obtain ⟨t, hv, h⟩ := Option.bind_eq_some_iff.mp h
 have HV := Aside0.mk hv
 clear hv
 generalize sizeW l0 = size at *
 cases t with
 | false =>
  rw [if_neg (by decide)] at h
  obtain ⟨rfl, rfl⟩ := Prod.mk.inj (Option.some.inj h)
  clear h
  go_enter Try.func39, Try.ntmps39
  go_wp2_with (go_at_call 27; (refine (extent_Valid.calls (10 * l0.length + 10) A0 c0 l0 false _ HR0.out hc0 HV.out).mono ?_); rintro e w1 ⟨rfl, hb1⟩)
  go_ret2
  exact ⟨_, rfl, Kd.R_nil _ _ _ _ _, hb1⟩
 | true =>
  rw [if_pos rfl] at h
  by_cases hn : n < 0
  ·rw [if_pos hn] at h
   obtain ⟨rfl, rfl⟩ := Prod.mk.inj (Option.some.inj h)
   clear h
   have hn1 := decide_eq_true hn
   go_enter Try.func39, Try.ntmps39
   go_wp2_with (go_at_call 27; (refine (extent_Valid.calls (10 * l0.length + 10) A0 c0 l0 true _ HR0.out hc0 HV.out).mono ?_); rintro e w1 ⟨rfl, hb1⟩)
   go_ret2
   exact ⟨_, rfl, Kd.R_nil _ _ _ _ _, hb1⟩
  rw [if_neg hn] at h
  have hn1 := decide_eq_false hn
  by_cases hm : n > 1048576
  ·rw [if_pos hm] at h
   obtain ⟨rfl, rfl⟩ := Prod.mk.inj (Option.some.inj h)
   clear h
   have hm1 : decide (1048576 < n) = true := decide_eq_true hm
   go_enter Try.func39, Try.ntmps39
   go_wp2_with (go_at_call 27; (refine (extent_Valid.calls (10 * l0.length + 10) A0 c0 l0 true _ HR0.out hc0 HV.out).mono ?_); rintro e w1 ⟨rfl, hb1⟩)
   go_ret2
   exact ⟨_, rfl, Kd.R_nil _ _ _ _ _, hb1⟩
  rw [if_neg hm] at h
  have hm1 : decide (1048576 < n) = false := decide_eq_false hm
  obtain ⟨r, h1, h2⟩ := Option.bind_eq_some_iff.mp h
  obtain ⟨rfl, rfl⟩ := Prod.mk.inj (Option.some.inj h2)
  have H := Aside0.mk h1
  clear h h1 h2 hn hm
  go_enter Try.func39, Try.ntmps39
  go_wp2_with (first | (go_at_call 27; (refine (extent_Valid.calls (10 * l0.length + 10) A0 c0 l0 true _ HR0.out hc0 HV.out).mono ?_); rintro e w1 ⟨rfl, hb1⟩) | (go_at_call 33; (refine (between_calls A0 c0 l0.length _ _ _).mono ?_); rintro e w2 ⟨gb, hgb, rfl, hb2, hxb, hxl, hxh⟩) | (go_at_call 19; (refine (extent_Size.calls (l0.length + 1) A0 c0 l0 size _ (Kd.C_below HR0.out (below_step hb1 hb2)) hc0 HS.out).mono ?_); rintro e w3 ⟨rfl, hb3⟩) | (go_at_call 53; (refine (piece_calls ⟨0, 0, _⟩ _).mono ?_); rintro e w4 ⟨gs, ga, rfl, hb4, hgs, hga, hxs, hxa⟩))
  have hb34 : Below w2.heap.size w2 w4 := below_step hb3 hb4
  have z2 := hb2.size
  have z3 := hb3.size
  have z4 := hb4.size
  refine (body_list [(itBetw gb w.heap.size l0 0 n, w1.heap.size, w2.heap.size), (itOne gs ga ⟨0, 0, wrap64 (n - size)⟩, w3.heap.size, w4.heap.size)] w4.heap.size r w _ (below_alloc (below_step (below_step hb1 hb2) hb34) _) (by simp) ?kL ?kP ?kQ (by simp) ?kX ?kJ).mono ?_
  case kL =>
   intro s hs
   rw [List.mem_cons, List.mem_singleton] at hs
   rcases hs with rfl | rfl
   ·exact (srcBetw (w := w1) (below_step hb1 hb2) HR0.out hc0 hgb hb1.size hxb hxl hxh).later (below_alloc hb34 _) (Nat.le_trans hb1.size z2)
   ·exact (srcOne (w := w3) (by have := hb1.size; omega) hgs hga hxs hxa).later (below_alloc (Below.refl _ _) _) (by have := hb1.size; omega)
  case kP => simp; omega
  case kQ =>
   intro s hs
   rw [List.mem_cons, List.mem_singleton] at hs
   rcases hs with rfl | rfl <;> dsimp only <;> omega
  case kX =>
   intro i s hs
   rcases i with _ | _ | i
   ·obtain rfl := Option.some.inj hs
    rw [World.cell?_alloc_new]; rfl
   ·obtain rfl := Option.some.inj hs
    rw [World.cell?_alloc_new]; rfl
   ·simp at hs
  case kJ => simpa [itBetw, itOne] using H.out
  rintro e w5 ⟨v5, rfl, hv5, hb5⟩
  go_wp2
  go_ret2
  exact ⟨_, rfl, hv5, hb5⟩

end

/-! ### l08_cut: function 23 -/
def l08_cut.f (l0 : List (S58)) (a1 : Int) : Option ((List (S58)) × Int) := (extent_Cut.f l0 a1).bind fun bt145 => (some (bt145.1, bt145.2))
set_option maxHeartbeats 8000000 in
set_option maxRecDepth 100000 in
theorem l08_cut.calls (A0 : Option Addr) (c0 : Nat) (l0 : List (S58)) (a1 : Int) (r1 : List (S58)) (r2 : Int) (w : World) (hr0 : Kd.C k58 w A0 l0.length l0) (hc0 : l0.length ≤ c0) (h : l08_cut.f l0 a1 = some (r1, r2)) :
  Calls Try.prog 23 #[.slice A0 l0.length c0, .int .i64 a1] w fun e w' => ∃ v0_ : Value, e = .returned (.agg #[v0_, .int .i64 r2]) ∧ Kd.R k58 58 w' w.heap.size (fun _ => True) v0_ r1 ∧ Below w.heap.size w w' := by
 have hu40 := Try.underlying40
 have HR0 := Aside0.mk hr0
 have HC0 := Aside0.mk hc0
 clear hr0 hc0
 have HB := Aside0.mk (Below.refl w.heap.size w)
 have H : ((extent_Cut.f l0 a1).bind fun bt145 => (some (bt145.1, bt145.2))) = some (r1, r2) := h
 clear h
 replace H := Option.bind_eq_some_iff.mp H
 obtain ⟨⟨t145, t146⟩, A30, H⟩ := H
 replace H : (some (t145, t146)) = some (r1, r2) := H
 have A3 := Aside0.mk A30
 clear A30
 simp only [Option.some.injEq, Prod.mk.injEq] at H
 obtain ⟨rfl, rfl⟩ := H
 go_enter Try.func23, Try.ntmps23
 go_wp2_with (first | ((with_reducible refine gate_dst (N := 4) rfl ?_); refine box_event ?hg (N := 4) ?hd (cs := #[.slice none 0 0, .int .i64 0]) (t := 40) ?hr ?_; (case hd => rfl); (case hg => rfl); (case hr => first | (go_simp; done) | (go_simp; rfl)); intro gb144 hg w4 hbox hb; have n0_ := Aside0.mk (below_step (by repeat (first | (with_reducible first | exact HB.out | apply below_alloc | apply pw_below_drewN | apply below_drew1) | exact HB.out)) hb); have n1_ := Aside0.mk (hbox); have n2_ := Aside0.mk ((by rw [hg]; exact (below_size (by repeat (first | (with_reducible first | exact HB.out | apply below_alloc | apply pw_below_drewN | apply below_drew1) | exact HB.out))) : w.heap.size ≤ gb144)); have n3_ := Aside0.mk ((by rw [hg]; exact (below_size (by repeat (first | (with_reducible first | exact HB.out | apply below_alloc | apply pw_below_drewN | apply below_drew1) | exact HB.out))) : w.heap.size ≤ gb144)); clear HB; have HB := n0_; have BK144 := n1_; have GW144 := n2_; have GE144 := n3_; clear n0_ n1_ n2_ n3_; clear hb hbox hg) | ((with_reducible refine gate_callee (f := 39) rfl ?_); refine goesL_ (some 10) rfl rfl Try.func39 (by kernel_rfl) rfl #[.slice A0 l0.length c0, .int .i64 a1] rfl (by (try simp only [List.map_toArray, List.map_cons, List.map_nil]); first | done | rfl | (simp only [List.length_drop, List.length_take]; rfl)) ?_; (with_reducible refine (extent_Cut.calls _ _ l0 a1 t145 t146 _ ?side1 ?side2 A3.out).mono ?_); (case side1 => repeat (first | exact (Kd.C_below HR0.out HB.out) | (with_reducible refine Kd.C_alloc ?_ _) | (with_reducible refine Kd.C_drewN ?_ _) | (with_reducible refine Kd.C_drew ?_))); (case side2 => exact HC0.out); rintro e w5 ⟨v147, rfl, ho0, hb⟩; refine ⟨_, rfl, ?_⟩; have n0_ := Aside0.mk (Kd.R_lower ho0 (below_size (by repeat (first | (with_reducible first | exact HB.out | apply below_alloc | apply pw_below_drewN | apply below_drew1 | refine below_set ?_ GE144.out) | exact HB.out)))); have n1_ := Aside0.mk (blk_below (g := gb144) (o := .cells #[.slice none 0 0, .int .i64 0] 40 (0, 0)) (by (with_reducible repeat (first | refine blk_drewN ?_ _ | refine blk_drew ?_ | refine blk_alloc ?_ _)); exact BK144.out) hb); have n2_ := Aside0.mk (below_step (by repeat (first | (with_reducible first | exact HB.out | apply below_alloc | apply pw_below_drewN | apply below_drew1 | refine below_set ?_ GE144.out) | exact HB.out)) hb); clear BK144; clear HB; have HO148 := n0_; have BK144 := n1_; have HB := n2_; clear n0_ n1_ n2_; (try clear hb); (try clear hb2); (try clear hk); (try clear hi); (try clear ho0); obtain ⟨Ao6, co6, eo6⟩ := Kd.R_slice HO148.out; subst eo6; have hcz7_0 : w5.cell? ⟨gb144, 0, none⟩ = some (.slice none 0 0) := (blk_cell BK144.out 0).trans rfl; have hcz7_1 : w5.cell? ⟨gb144, 1, none⟩ = some (.int .i64 0) := (blk_cell BK144.out 1).trans rfl; have hfz7_0 := blk_frozen BK144.out 0; have hfz7_1 := blk_frozen BK144.out 1))
 refine bodyPost_ret (results_cell_row rfl _ _ gb144 40 #[.slice Ao6 t145.length co6, .int .i64 t146] (0, 0) _ rfl (by (with_reducible repeat (first | refine blk_drewN ?_ _ | refine blk_drew ?_ | refine blk_alloc ?_ _)); refine blk_put (cs := #[.slice Ao6 t145.length co6, .int .i64 0]) ?_ 1 _ rfl; (with_reducible repeat (first | refine blk_drewN ?_ _ | refine blk_drew ?_ | refine blk_alloc ?_ _)); refine blk_put (cs := #[.slice none 0 0, .int .i64 0]) ?_ 0 _ rfl; (with_reducible repeat (first | refine blk_drewN ?_ _ | refine blk_drew ?_ | refine blk_alloc ?_ _)); exact BK144.out) Try.underlying40 rfl (by kernel_rfl)) rfl ?_
 exact ⟨_, by first | rfl | (simp [errW_none, errW_some] <;> rfl) | (simp [*, errW_none, errW_some] <;> rfl) | (exfalso; simp_all only [aside0_iff, Option.some.injEq, reduceCtorEq]), by (with_reducible repeat (first | apply Kd.R_alloc | apply Kd.R_drewN | apply Kd.R_drew)); exact Kd.R_mono (Kd.R_far (p := ⟨gb144, 1, none⟩) (Kd.R_far (p := ⟨gb144, 0, none⟩) (Kd.R_types HO148.out BK144.out (by decide)) (fun _ hk => hk.2) (.slice Ao6 t145.length co6)) (fun _ hk => hk.2) (.int .i64 t146)) (fun _ hk => trivial), by repeat (first | (with_reducible first | exact HB.out | apply below_alloc | apply pw_below_drewN | apply below_drew1 | refine below_set ?_ GE144.out) | exact HB.out)⟩

/-! ### extent_Bytes_1: function 55 -/
def extent_Bytes_1.f (a0_0 : Int) (a0_1 : Int) (a0_2 : Int) : Option (Bool) := some (a0_0 == (-1))
set_option maxHeartbeats 8000000 in
set_option maxRecDepth 100000 in
theorem extent_Bytes_1.calls (a0_0 : Int) (a0_1 : Int) (a0_2 : Int) (r : Bool) (w : World) (h : extent_Bytes_1.f a0_0 a0_1 a0_2 = some r) :
  Calls Try.prog 55 #[.agg #[.int .i64 a0_0, .int .i64 a0_1, .int .i64 a0_2]] w fun e w' => e = .returned (.bool r) ∧ Below w.heap.size w w' := by
 have hu58 := Try.underlying58
 have HB := Aside0.mk (Below.refl w.heap.size w)
 have H : (some (a0_0 == (-1))) = some r := h
 clear h
 obtain rfl := Option.some.inj H
 go_enter Try.func55, Try.ntmps55
 go_wp2_with (first | ((with_reducible refine gate_dst (N := 1) rfl ?_); refine box_event ?hg (N := 1) ?hd (cs := #[.int .i64 a0_0, .int .i64 a0_1, .int .i64 a0_2]) (t := 58) ?hr ?_; (case hd => rfl); (case hg => rfl); (case hr => first | (go_simp; done) | (go_simp; rfl)); intro gb149 hg w2 hbox hb; have n0_ := Aside0.mk (below_step (by repeat (first | (with_reducible first | exact HB.out | apply below_alloc | apply pw_below_drewN | apply below_drew1) | exact HB.out)) hb); have n1_ := Aside0.mk (hbox); have n2_ := Aside0.mk ((by rw [hg]; exact (below_size (by repeat (first | (with_reducible first | exact HB.out | apply below_alloc | apply pw_below_drewN | apply below_drew1) | exact HB.out))) : w.heap.size ≤ gb149)); have n3_ := Aside0.mk ((by rw [hg]; exact (below_size (by repeat (first | (with_reducible first | exact HB.out | apply below_alloc | apply pw_below_drewN | apply below_drew1) | exact HB.out))) : w.heap.size ≤ gb149)); clear HB; have HB := n0_; have BK149 := n1_; have GW149 := n2_; have GE149 := n3_; clear n0_ n1_ n2_ n3_; clear hb hbox hg; have hcz3_0 : w2.cell? ⟨gb149, 0, none⟩ = some (.int .i64 a0_0) := (blk_cell BK149.out 0).trans rfl; have hcz3_1 : w2.cell? ⟨gb149, 1, none⟩ = some (.int .i64 a0_1) := (blk_cell BK149.out 1).trans rfl; have hcz3_2 : w2.cell? ⟨gb149, 2, none⟩ = some (.int .i64 a0_2) := (blk_cell BK149.out 2).trans rfl; have hfz3_0 := blk_frozen BK149.out 0; have hfz3_1 := blk_frozen BK149.out 1; have hfz3_2 := blk_frozen BK149.out 2))
 go_ret
 exact ⟨by first | rfl | (simp [errW_none, errW_some] <;> rfl) | (simp [*, errW_none, errW_some] <;> rfl) | (exfalso; simp_all only [aside0_iff, Option.some.injEq, reduceCtorEq]), by repeat (first | (with_reducible first | exact HB.out | apply below_alloc | apply pw_below_drewN | apply below_drew1 | refine below_set ?_ GE149.out) | exact HB.out)⟩

/-! ### api_Piece_62: function 62 -/
def api_Piece_62.l0 : Nat → List (S58) → Int → Int → Option (Int)
 | 0, _, _, _ => none
 | k + 1, x0, x7, x8 => if x8 < x7 then (if 0 ≤ x8 then (if x8 < (x0.length : Int) then ((extent_Bytes_1.f ((rd_T58 x0 x8).f0) ((rd_T58 x0 x8).f1) ((rd_T58 x0 x8).f2)).bind fun t151 => (if t151 = true then (some x8) else (api_Piece_62.l0 k x0 x7 (wrap64 (x8 + 1))))) else (none)) else (none)) else (some (-1))
def api_Piece_62.f (k : Nat) (l0 : List (S58))  : Option (Int) := api_Piece_62.l0 k l0 (l0.length : Int) 0
theorem api_Piece_62.mono_l : ∀ k, (∀ y0 y1 y2, LeO (api_Piece_62.l0 k y0 y1 y2) (api_Piece_62.l0 (k + 1) y0 y1 y2))
 | 0 => fun _ _ _ r h => by simp [api_Piece_62.l0] at h
 | k + 1 => by
  have ih0 := api_Piece_62.mono_l k
  ·intro y0 y1 y2
   unfold api_Piece_62.l0
   repeat' first
   | (with_reducible exact ih0 _ _ _)
   | (with_reducible exact LeO.refl _)
   | (with_reducible exact LeO.none _)
   | (with_reducible refine LeO.ite ?_ ?_)
   | (with_reducible refine LeO.bind ?_ (fun _ => ?_))
   | exact ih0 _ _ _
   | exact LeO.none _
   | refine LeO.ite ?_ ?_
   | refine LeO.bind ?_ (fun _ => ?_)
theorem api_Piece_62.mono : ∀ a0 k, LeO (api_Piece_62.f k a0) (api_Piece_62.f (k + 1) a0) := by
 intro a0 k
 have ih0 := api_Piece_62.mono_l k
 unfold api_Piece_62.f
 repeat' first
   | (with_reducible exact ih0 _ _ _)
   | (with_reducible exact LeO.refl _)
   | (with_reducible exact LeO.none _)
   | (with_reducible refine LeO.ite ?_ ?_)
   | (with_reducible refine LeO.bind ?_ (fun _ => ?_))
   | exact ih0 _ _ _
   | exact LeO.none _
   | refine LeO.ite ?_ ?_
   | refine LeO.bind ?_ (fun _ => ?_)
set_option maxHeartbeats 8000000 in
set_option maxRecDepth 100000 in
theorem api_Piece_62.calls (k : Nat) (A0 : Option Addr) (c0 : Nat) (l0 : List (S58))  (r : Int) (w : World) (hr0 : Kd.C k58 w A0 l0.length l0) (hc0 : l0.length ≤ c0) (h : api_Piece_62.f k l0 = some r) :
  Calls Try.prog 62 #[.slice A0 l0.length c0, .func (.func 55) #[] #[]] w fun e w' => e = .returned (.int .i64 r) ∧ Below w.heap.size w w' := by
 have hu58 := Try.underlying58
 have HR0 := Aside0.mk hr0
 have HC0 := Aside0.mk hc0
 clear hr0 hc0
 have HB := Aside0.mk (Below.refl w.heap.size w)
 have H : (api_Piece_62.l0 k l0 (l0.length : Int) 0) = some r := h
 clear h
 have H' := Aside0.mk H
 clear H
 go_enter Try.func62, Try.ntmps62
 go_wp2
 go_loopg [8] k (fun kq v8 w' => ∃ (x8_1 : Int), v8 = .int .i64 x8_1 ∧ Aside0 (api_Piece_62.l0 kq l0 (l0.length : Int) x8_1 = some r) ∧ Aside0 (kq ≤ k) ∧ Aside0 (Below w.heap.size w w'))
 case atStart => exact ⟨(0), (by first | rfl | (simp; done) | (simp [*]; done)), H', ⟨Nat.le_refl _⟩, ⟨by repeat (first | (with_reducible first | exact HB.out | apply below_alloc | apply pw_below_drewN | apply below_drew1) | exact HB.out)⟩⟩
 case round =>
  clear H'
  try clear p2
  obtain ⟨x8_1, rfl, HA, HK1, HB⟩ := hrel
  cases gk with
  | zero => exact absurd HA.out (by simp [api_Piece_62.l0])
  | succ k1 =>
   have H := HA.out
   clear HA
   simp only [api_Piece_62.l0] at H
   by_cases c3 : x8_1 < (l0.length : Int)
   ·rw [if_pos c3] at H
    have c3b0 : decide (x8_1 < (l0.length : Int)) = true := decide_eq_true c3
    clear c3
    by_cases c4 : 0 ≤ x8_1
    ·rw [if_pos c4] at H
     have c4b0 : decide (0 ≤ x8_1) = true := decide_eq_true c4
     clear c4
     by_cases c5 : x8_1 < (l0.length : Int)
     ·rw [if_pos c5] at H
      have c5b0 : decide (x8_1 < (l0.length : Int)) = true := decide_eq_true c5
      clear c5
      replace H := Option.bind_eq_some_iff.mp H
      obtain ⟨t151, A60, H⟩ := H
      replace H : (if t151 = true then (some x8_1) else (api_Piece_62.l0 k1 l0 (l0.length : Int) (wrap64 (x8_1 + 1)))) = some r := H
      have A6 := Aside0.mk A60
      clear A60
      by_cases c7 : t151 = true
      ·subst c7
       have H1 : (some x8_1) = some r := by rw [if_pos rfl] at H; exact H
       clear H
       have H := H1
       clear H1
       obtain rfl := Option.some.inj H
       have p150 : 0 ≤ (x8_1 : Int) := of_decide_eq_true (by first | (with_reducible assumption) | assumption)
       have q150 : x8_1 < (l0.length : Int) := of_decide_eq_true (by first | (with_reducible assumption) | assumption)
       obtain ⟨ad150, e150, hx150_0, hx150_1, hx150_2⟩ := at_T58 HR0.out x8_1 p150 q150
       cases e150
       replace hx150_0 := (HB.out.cell (World.block_lt_of_cell? w _ hx150_0)).trans hx150_0
       replace hx150_1 := (HB.out.cell (World.block_lt_of_cell? w _ hx150_1)).trans hx150_1
       replace hx150_2 := (HB.out.cell (World.block_lt_of_cell? w _ hx150_2)).trans hx150_2
       replace p150 := eq_true p150
       replace q150 := eq_true q150
       go_wp2_with (first | (go_at_call 55; (with_reducible refine (extent_Bytes_1.calls ((rd_T58 l0 x8_1).f0) ((rd_T58 l0 x8_1).f1) ((rd_T58 l0 x8_1).f2) true _ A6.out).mono ?_); rintro e w8 ⟨rfl, hb⟩; have n0_ := Aside0.mk (below_step (by repeat (first | (with_reducible first | exact HB.out | apply below_alloc | apply pw_below_drewN | apply below_drew1) | exact HB.out)) hb); clear HB; have HB := n0_; clear n0_; (try clear hb); (try clear hb2); (try clear hk); (try clear hi)))
       go_ret
       exact ⟨by first | rfl | (simp [errW_none, errW_some] <;> rfl) | (simp [*, errW_none, errW_some] <;> rfl) | (exfalso; simp_all only [aside0_iff, Option.some.injEq, reduceCtorEq]), by repeat (first | (with_reducible first | exact HB.out | apply below_alloc | apply pw_below_drewN | apply below_drew1) | exact HB.out)⟩
      ·replace c7 := Bool.eq_false_iff.mpr c7
       subst c7
       have H1 : (api_Piece_62.l0 k1 l0 (l0.length : Int) (wrap64 (x8_1 + 1))) = some r := by rw [if_neg (show ¬ (false = true) by decide)] at H; exact H
       clear H
       have H := H1
       clear H1
       have H' := Aside0.mk H
       clear H
       have p150 : 0 ≤ (x8_1 : Int) := of_decide_eq_true (by first | (with_reducible assumption) | assumption)
       have q150 : x8_1 < (l0.length : Int) := of_decide_eq_true (by first | (with_reducible assumption) | assumption)
       obtain ⟨ad150, e150, hx150_0, hx150_1, hx150_2⟩ := at_T58 HR0.out x8_1 p150 q150
       cases e150
       replace hx150_0 := (HB.out.cell (World.block_lt_of_cell? w _ hx150_0)).trans hx150_0
       replace hx150_1 := (HB.out.cell (World.block_lt_of_cell? w _ hx150_1)).trans hx150_1
       replace hx150_2 := (HB.out.cell (World.block_lt_of_cell? w _ hx150_2)).trans hx150_2
       replace p150 := eq_true p150
       replace q150 := eq_true q150
       go_wp2_with (first | (go_at_call 55; (with_reducible refine (extent_Bytes_1.calls ((rd_T58 l0 x8_1).f0) ((rd_T58 l0 x8_1).f1) ((rd_T58 l0 x8_1).f2) false _ A6.out).mono ?_); rintro e w9 ⟨rfl, hb⟩; have n0_ := Aside0.mk (below_step (by repeat (first | (with_reducible first | exact HB.out | apply below_alloc | apply pw_below_drewN | apply below_drew1) | exact HB.out)) hb); clear HB; have HB := n0_; clear n0_; (try clear hb); (try clear hb2); (try clear hk); (try clear hi)))
       go_roundg k1
       case measure => have := HK1.out; omega
       case rel => exact ⟨(wrap64 (x8_1 + 1)), (by first | rfl | (simp; done) | (simp [*]; done)), H', ⟨by have := HK1.out; omega⟩, ⟨by repeat (first | (with_reducible first | exact HB.out | apply below_alloc | apply pw_below_drewN | apply below_drew1) | exact HB.out)⟩⟩
     ·rw [if_neg c5] at H
      exact absurd H (by simp)
    ·rw [if_neg c4] at H
     exact absurd H (by simp)
   ·rw [if_neg c3] at H
    have c3b0 : decide (x8_1 < (l0.length : Int)) = false := decide_eq_false c3
    clear c3
    obtain rfl := Option.some.inj H
    go_wp2
    go_ret
    exact ⟨by first | rfl | (simp [errW_none, errW_some] <;> rfl) | (simp [*, errW_none, errW_some] <;> rfl) | (exfalso; simp_all only [aside0_iff, Option.some.injEq, reduceCtorEq]), by repeat (first | (with_reducible first | exact HB.out | apply below_alloc | apply pw_below_drewN | apply below_drew1) | exact HB.out)⟩

/-! ### api_Piece_54: function 54 -/
def api_Piece_54.f (k : Nat) (l0 : List (S58))  : Option (Bool) := (api_Piece_62.f k l0).bind fun t152 => (some (decide (t152 ≥ 0)))
theorem api_Piece_54.mono : ∀ a0 k, LeO (api_Piece_54.f k a0) (api_Piece_54.f (k + 1) a0) := by
 intro a0 k
 unfold api_Piece_54.f
 repeat' first
   | (with_reducible exact api_Piece_62.mono _ _)
   | (with_reducible exact LeO.refl _)
   | (with_reducible exact LeO.none _)
   | (with_reducible refine LeO.ite ?_ ?_)
   | (with_reducible refine LeO.bind ?_ (fun _ => ?_))
   | exact api_Piece_62.mono _ _
   | exact LeO.none _
   | refine LeO.ite ?_ ?_
   | refine LeO.bind ?_ (fun _ => ?_)
set_option maxHeartbeats 8000000 in
set_option maxRecDepth 100000 in
theorem api_Piece_54.calls (k : Nat) (A0 : Option Addr) (c0 : Nat) (l0 : List (S58))  (r : Bool) (w : World) (hr0 : Kd.C k58 w A0 l0.length l0) (hc0 : l0.length ≤ c0) (h : api_Piece_54.f k l0 = some r) :
  Calls Try.prog 54 #[.slice A0 l0.length c0, .func (.func 55) #[] #[]] w fun e w' => e = .returned (.bool r) ∧ Below w.heap.size w w' := by
 have HR0 := Aside0.mk hr0
 have HC0 := Aside0.mk hc0
 clear hr0 hc0
 have HB := Aside0.mk (Below.refl w.heap.size w)
 have H : ((api_Piece_62.f k l0).bind fun t152 => (some (decide (t152 ≥ 0)))) = some r := h
 clear h
 replace H := Option.bind_eq_some_iff.mp H
 obtain ⟨t152, A30, H⟩ := H
 replace H : (some (decide (t152 ≥ 0))) = some r := H
 have A3 := Aside0.mk A30
 clear A30
 obtain rfl := Option.some.inj H
 go_enter Try.func54, Try.ntmps54
 go_wp2_with (first | ((with_reducible refine gate_callee (f := 62) rfl ?_); refine goesL_ (some 7) rfl rfl Try.func62 (by kernel_rfl) rfl #[.slice A0 l0.length c0, .func (.func 55) #[] #[]] rfl (by (try simp only [List.map_toArray, List.map_cons, List.map_nil]); first | done | rfl | (simp only [List.length_drop, List.length_take]; rfl)) ?_; (with_reducible refine (api_Piece_62.calls k _ _ l0  t152 _ ?side1 ?side2 A3.out).mono ?_); (case side1 => repeat (first | exact HR0.out | (with_reducible refine Kd.C_alloc ?_ _) | (with_reducible refine Kd.C_drewN ?_ _) | (with_reducible refine Kd.C_drew ?_))); (case side2 => exact HC0.out); rintro e w4 ⟨rfl, hb⟩; refine ⟨_, rfl, ?_⟩; have n0_ := Aside0.mk (below_step (by repeat (first | (with_reducible first | exact HB.out | apply below_alloc | apply pw_below_drewN | apply below_drew1) | exact HB.out)) hb); clear HB; have HB := n0_; clear n0_; (try clear hb); (try clear hb2); (try clear hk); (try clear hi)))
 go_ret
 exact ⟨by first | rfl | (simp [errW_none, errW_some] <;> rfl) | (simp [*, errW_none, errW_some] <;> rfl) | (exfalso; simp_all only [aside0_iff, Option.some.injEq, reduceCtorEq]), by repeat (first | (with_reducible first | exact HB.out | apply below_alloc | apply pw_below_drewN | apply below_drew1) | exact HB.out)⟩

/-- A state of type 58 at block g of W; what its slices lead to came in by w0. -/
def IsS58 (w0 W : World) (g : Nat) (f0 : Int) (f1 : Int) (f2 : Int) : Prop := W.heap[g]? = some (.cells #[.int .i64 f0, .int .i64 f1, .int .i64 f2] 58 (0, 0)) ∧ w0.heap.size ≤ g
theorem IsS58.grown {w0 W : World} {g : Nat} {f0 : Int} {f1 : Int} {f2 : Int} {W1 : World} {row : Option Nat} (h : IsS58 w0 W g f0 f1 f2) (hw : W.grownBy W1 row) (hne : some g ≠ row) : IsS58 w0 W1 g f0 f1 f2 := by
 obtain ⟨hb, hg⟩ := h
 exact ⟨blk_grown hb hw hne, hg⟩
theorem IsS58.own_neN {w0 W : World} {g : Nat} {f0 : Int} {f1 : Int} {f2 : Int} {α : Type} {d : Kd α} {e : Nat} {base : Nat} {ok : Nat → Prop} {v : Value} {xs : List α} (h : IsS58 w0 W g f0 f1 f2) (ho : Kd.N d e W base ok v xs) (ht : e ≠ 58) : some g ≠ v.ownBlock := by
 obtain ⟨hb, hg⟩ := h
 exact Kd.N_ne ho hb ht
theorem IsS58.fresh {w0 W : World} {g : Nat} {f0 : Int} {f1 : Int} {f2 : Int} (h : IsS58 w0 W g f0 f1 f2) : ∀ k, W.heap.size ≤ k → k ≠ g := by
 obtain ⟨hb, hg⟩ := h
 exact Kd.freshB hb
theorem IsS58.kept {w0 W : World} {g : Nat} {f0 : Int} {f1 : Int} {f2 : Int} {W1 : World} {S : Nat → Prop} (h : IsS58 w0 W g f0 f1 f2) (hk : Kept W W1 S) (hne : ¬ S g) : IsS58 w0 W1 g f0 f1 f2 := by
 obtain ⟨hb, hg⟩ := h
 exact ⟨blk_kept hb hk hne, hg⟩
theorem IsS58.below {w0 W : World} {g : Nat} {f0 : Int} {f1 : Int} {f2 : Int} {W1 : World} (h : IsS58 w0 W g f0 f1 f2) (hw : Below W.heap.size W W1) : IsS58 w0 W1 g f0 f1 f2 := h.grown (grown_of_below hw none) (by simp)
theorem IsS58.alloc {w0 W : World} {g : Nat} {f0 : Int} {f1 : Int} {f2 : Int} (h : IsS58 w0 W g f0 f1 f2) (o : Obj) : IsS58 w0 (W.alloc o) g f0 f1 f2 := h.below (below_alloc (Below.refl _ _) o)
theorem IsS58.drewN {w0 W : World} {g : Nat} {f0 : Int} {f1 : Int} {f2 : Int} (h : IsS58 w0 W g f0 f1 f2) (m : Nat) : IsS58 w0 (W.drewN m) g f0 f1 f2 := h
theorem IsS58.drew {w0 W : World} {g : Nat} {f0 : Int} {f1 : Int} {f2 : Int} (h : IsS58 w0 W g f0 f1 f2) : IsS58 w0 W.drew g f0 f1 f2 := h
theorem IsS58.at_ {w0 W : World} {g : Nat} {f0 : Int} {f1 : Int} {f2 : Int} {w' : World} {m : Nat} (hq : W.drewN m = w') (h : IsS58 w0 W g f0 f1 f2) : IsS58 w0 w' g f0 f1 f2 := by subst hq; exact IsS58.drewN h m
theorem IsS58.apart {w0 W : World} {g : Nat} {f0 : Int} {f1 : Int} {f2 : Int} {α : Type} {d : Kd α} {e : Nat} {base : Nat} {ok : Nat → Prop} {v : Value} {xs : List α} (h : IsS58 w0 W g f0 f1 f2) (ho : d.R e W base ok v xs) (ht : ∀ q, q ∈ e :: d.E → q ≠ 58) : d.R e W base (fun k => ok k ∧ k ≠ g) v xs := by
 obtain ⟨hb, hg⟩ := h
 exact Kd.R_types ho hb ht
theorem IsS58.own_ne {w0 W : World} {g : Nat} {f0 : Int} {f1 : Int} {f2 : Int} {α : Type} {d : Kd α} {e : Nat} {base : Nat} {ok : Nat → Prop} {v : Value} {xs : List α} (h : IsS58 w0 W g f0 f1 f2) (ho : d.R e W base ok v xs) (ht : e ≠ 58) : some g ≠ v.ownBlock := by
 obtain ⟨hb, hg⟩ := h
 exact Kd.R_ne ho hb ht
theorem IsS58.apartQ {w0 W : World} {g : Nat} {f0 : Int} {f1 : Int} {f2 : Int} {α : Type} {d : Kd α} {e : Nat} {base : Nat} {ok : Nat → Prop} {v : Value} {xs : List α} (h : IsS58 w0 W g f0 f1 f2) (ho : d.Q e W base ok v xs) (ht : ∀ q, q ∈ e :: d.E → q ≠ 58) : d.Q e W base (fun k => ok k ∧ k ≠ g) v xs := by
 obtain ⟨hb, hg⟩ := h
 exact Kd.Q_types ho hb ht
theorem IsS58.own_neQ {w0 W : World} {g : Nat} {f0 : Int} {f1 : Int} {f2 : Int} {α : Type} {d : Kd α} {e : Nat} {base : Nat} {ok : Nat → Prop} {v : Value} {xs : List α} (h : IsS58 w0 W g f0 f1 f2) (ho : d.Q e W base ok v xs) (ht : e ≠ 58) : some g ≠ v.ownBlock := by
 obtain ⟨hb, hg⟩ := h
 exact Kd.Q_ne ho hb ht
theorem IsS58.apartS {w0 W : World} {g : Nat} {f0 : Int} {f1 : Int} {f2 : Int} {α : Type} {d : Kd α} {e : Nat} {base : Nat} {ok : Nat → Prop} {v : Value} {xs : List α} (h : IsS58 w0 W g f0 f1 f2) (ho : d.S e W base ok v xs) (ht : ∀ q, q ∈ e :: d.E → q ≠ 58) : d.S e W base (fun k => ok k ∧ k ≠ g) v xs := by
 obtain ⟨hb, hg⟩ := h
 exact Kd.S_types ho hb ht
theorem IsS58.own_neS {w0 W : World} {g : Nat} {f0 : Int} {f1 : Int} {f2 : Int} {α : Type} {d : Kd α} {e : Nat} {base : Nat} {ok : Nat → Prop} {v : Value} {xs : List α} (h : IsS58 w0 W g f0 f1 f2) (ho : d.S e W base ok v xs) (ht : e ≠ 58) : some g ≠ v.ownBlock := by
 obtain ⟨hb, hg⟩ := h
 exact Kd.S_ne ho hb ht
theorem IsS58.lt {w0 W : World} {g : Nat} {f0 : Int} {f1 : Int} {f2 : Int} (h : IsS58 w0 W g f0 f1 f2) : g < W.heap.size := by
 obtain ⟨hb, hg⟩ := h
 exact blk_lt hb
theorem IsS58.ge {w0 W : World} {g : Nat} {f0 : Int} {f1 : Int} {f2 : Int} (h : IsS58 w0 W g f0 f1 f2) : w0.heap.size ≤ g := by
 obtain ⟨hb, hg⟩ := h
 exact hg
theorem IsS58.ne_blk {w0 W : World} {g : Nat} {f0 : Int} {f1 : Int} {f2 : Int} {a : Nat} {cs : Array Value} {t : TypeId} {fr : Nat × Nat} (h : IsS58 w0 W g f0 f1 f2) (hb2 : W.heap[a]? = some (.cells cs t fr)) (ht : t ≠ 58) : g ≠ a := by
 obtain ⟨hb, hg⟩ := h
 rintro rfl
 rw [hb] at hb2
 injection hb2 with hb2
 injection hb2 with _ ht2
 exact ht ht2.symm
theorem IsS58.far {w0 W : World} {g : Nat} {f0 : Int} {f1 : Int} {f2 : Int} {p : Addr} (h : IsS58 w0 W g f0 f1 f2) (hne : g ≠ p.block) (u : Value) : IsS58 w0 (W.setCell p u) g f0 f1 f2 := by
 obtain ⟨hb, hg⟩ := h
 exact ⟨blk_far hb hne u, hg⟩
theorem cellS58_0 {W : World} {g : Nat} {f0 : Int} {f1 : Int} {f2 : Int} (h : W.heap[g]? = some (.cells #[.int .i64 f0, .int .i64 f1, .int .i64 f2] 58 (0, 0))) : W.cell? ⟨g, 0, none⟩ = some (.int .i64 f0) := (blk_cell h 0).trans rfl
theorem IsS58.set_0 {w0 W : World} {g : Nat} {f0 : Int} {f1 : Int} {f2 : Int} (h : IsS58 w0 W g f0 f1 f2) (x : Int) : IsS58 w0 (W.setCell ⟨g, 0, none⟩ (.int .i64 x)) g x f1 f2 := by
 obtain ⟨hb, hg⟩ := h
 exact ⟨by simpa using blk_set hb 0 (.int .i64 x), hg⟩
theorem cellS58_1 {W : World} {g : Nat} {f0 : Int} {f1 : Int} {f2 : Int} (h : W.heap[g]? = some (.cells #[.int .i64 f0, .int .i64 f1, .int .i64 f2] 58 (0, 0))) : W.cell? ⟨g, 1, none⟩ = some (.int .i64 f1) := (blk_cell h 1).trans rfl
theorem IsS58.set_1 {w0 W : World} {g : Nat} {f0 : Int} {f1 : Int} {f2 : Int} (h : IsS58 w0 W g f0 f1 f2) (x : Int) : IsS58 w0 (W.setCell ⟨g, 1, none⟩ (.int .i64 x)) g f0 x f2 := by
 obtain ⟨hb, hg⟩ := h
 exact ⟨by simpa using blk_set hb 1 (.int .i64 x), hg⟩
theorem cellS58_2 {W : World} {g : Nat} {f0 : Int} {f1 : Int} {f2 : Int} (h : W.heap[g]? = some (.cells #[.int .i64 f0, .int .i64 f1, .int .i64 f2] 58 (0, 0))) : W.cell? ⟨g, 2, none⟩ = some (.int .i64 f2) := (blk_cell h 2).trans rfl
theorem IsS58.set_2 {w0 W : World} {g : Nat} {f0 : Int} {f1 : Int} {f2 : Int} (h : IsS58 w0 W g f0 f1 f2) (x : Int) : IsS58 w0 (W.setCell ⟨g, 2, none⟩ (.int .i64 x)) g f0 f1 x := by
 obtain ⟨hb, hg⟩ := h
 exact ⟨by simpa using blk_set hb 2 (.int .i64 x), hg⟩
theorem IsS58.new (w0 W : World) (f0 : Int) (f1 : Int) (f2 : Int) (hB : Below w0.heap.size w0 W) : IsS58 w0 (W.alloc (.cells #[.int .i64 f0, .int .i64 f1, .int .i64 f2] 58)) W.heap.size f0 f1 f2 := ⟨by simpa using heap_alloc_new W _, hB.size⟩

/-! ### extent_Bytes_2: function 57 -/
def extent_Bytes_2.f (a0_0 : Int) (l0_1 : List Int) (s1_0 : Int) (s1_1 : Int) (s1_2 : Int) : Option (Bool × Int × Int × Int) := some ((a0_0 == s1_0), s1_0, s1_1, s1_2)
set_option maxHeartbeats 8000000 in
set_option maxRecDepth 100000 in
theorem extent_Bytes_2.calls (a0_0 : Int) (A0_1 : Option Addr) (c0_1 : Nat) (l0_1 : List Int) (g : Nat) (s1_0 : Int) (s1_1 : Int) (s1_2 : Int) (r1 : Bool) (r2 : Int) (r3 : Int) (r4 : Int) (w0 w : World) (hI : IsS58 w0 w g s1_0 s1_1 s1_2) (hB : Below w0.heap.size w0 w) (hr0_1 : Kd.C (Kd.int .u8) w A0_1 l0_1.length l0_1) (hc0_1 : l0_1.length ≤ c0_1) (hf0_1 : ∀ ad, A0_1 = some ad → 0 < l0_1.length → ad.block ≠ g) (h : extent_Bytes_2.f a0_0 l0_1 s1_0 s1_1 s1_2 = some (r1, r2, r3, r4)) :
  Calls Try.prog 57 #[.agg #[.int .i64 a0_0, .slice A0_1 l0_1.length c0_1], .pointer (some ⟨g, 0, none⟩)] w fun e w' => e = .returned (.bool r1) ∧ IsS58 w0 w' g r2 r3 r4 ∧ Below w0.heap.size w0 w' ∧ KeepBut w w' g none := by
 have hu69 := Try.underlying69
 have HR0_1 := Aside0.mk hr0_1
 have HC0_1 := Aside0.mk hc0_1
 clear hr0_1 hc0_1
 have HI1 := Aside0.mk hI
 have HK := Aside0.mk (KeepBut.refl w g none)
 have HL := Aside0.mk hB.size
 clear hI
 have HW0 := Aside0.mk hB.size
 have HB := Aside0.mk hB
 clear hB
 have H : (some ((a0_0 == s1_0), s1_0, s1_1, s1_2)) = some (r1, r2, r3, r4) := h
 clear h
 simp only [Option.some.injEq, Prod.mk.injEq] at H
 obtain ⟨rfl, rfl, rfl, rfl⟩ := H
 go_enter Try.func57, Try.ntmps57
 go_wp2_with (first | ((with_reducible refine gate_dst (N := 2) rfl ?_); refine box_event ?hg (N := 2) ?hd (cs := #[.int .i64 a0_0, .slice A0_1 l0_1.length c0_1]) (t := 69) ?hr ?_; (case hd => rfl); (case hg => rfl); (case hr => first | (go_simp; done) | (go_simp; rfl)); intro gb153 hg w3 hbox hb; have n0_ := Aside0.mk (IsS58.below (by repeat (first | (with_reducible first | exact HI1.out | apply IsS58.alloc | apply IsS58.drewN | apply IsS58.drew | apply IsS58.set_0 | apply IsS58.set_1 | apply IsS58.set_2) | exact HI1.out)) hb); have n1_ := Aside0.mk (KeepBut.trans (by repeat (first | (with_reducible first | exact HK.out | apply KeepBut.set_ | apply keep_drewN | apply keep_drew | apply keep_alloc) | exact HK.out)) (KeepBut.of_below hb g none) (.inl rfl)); have n2_ := Aside0.mk (below_step (by repeat (first | (with_reducible first | exact HB.out | apply below_alloc | apply pw_below_drewN | apply below_drew1 | refine below_set ?_ (IsS58.ge HI1.out)) | exact HB.out)) hb); have n3_ := Aside0.mk (hbox); have n4_ := Aside0.mk ((by rw [hg]; exact (keep_size (w := w) (g := g) (row := none) (by repeat (first | (with_reducible first | exact HK.out | apply KeepBut.set_ | apply keep_drewN | apply keep_drew | apply keep_alloc) | exact HK.out))) : w.heap.size ≤ gb153)); have n5_ := Aside0.mk ((Nat.le_trans HW0.out (by rw [hg]; exact (keep_size (w := w) (g := g) (row := none) (by repeat (first | (with_reducible first | exact HK.out | apply KeepBut.set_ | apply keep_drewN | apply keep_drew | apply keep_alloc) | exact HK.out))) : w.heap.size ≤ gb153) : w0.heap.size ≤ gb153)); have n6_ := Aside0.mk ((by rw [hg]; exact Nat.ne_of_lt (IsS58.lt (show IsS58 w0 _ g s1_0 s1_1 s1_2 from by repeat (first | (with_reducible first | exact HI1.out | apply IsS58.alloc | apply IsS58.drewN | apply IsS58.drew | apply IsS58.set_0 | apply IsS58.set_1 | apply IsS58.set_2) | exact HI1.out))) : g ≠ gb153)); have n7_ := Aside0.mk ((by rw [hg]; exact Nat.ne_of_gt (IsS58.lt (show IsS58 w0 _ g s1_0 s1_1 s1_2 from by repeat (first | (with_reducible first | exact HI1.out | apply IsS58.alloc | apply IsS58.drewN | apply IsS58.drew | apply IsS58.set_0 | apply IsS58.set_1 | apply IsS58.set_2) | exact HI1.out))) : gb153 ≠ g)); clear HI1; clear HK; clear HB; have HI1 := n0_; have HK := n1_; have HB := n2_; have BK153 := n3_; have GW153 := n4_; have GE153 := n5_; have NB1_153 := n6_; have NB153_1 := n7_; clear n0_ n1_ n2_ n3_ n4_ n5_ n6_ n7_; clear hb hbox hg; have hnb4 := NB153_1.out; have hnc4 := NB1_153.out; have hcz5_0 : w3.cell? ⟨gb153, 0, none⟩ = some (.int .i64 a0_0) := (blk_cell BK153.out 0).trans rfl; have hcz5_1 : w3.cell? ⟨gb153, 1, none⟩ = some (.slice A0_1 l0_1.length c0_1) := (blk_cell BK153.out 1).trans rfl; have hfz5_0 := blk_frozen BK153.out 0; have hfz5_1 := blk_frozen BK153.out 1; obtain ⟨HGz6, hgz6⟩ := HI1.out; have hcz6_0 := cellS58_0 HGz6; have hcz6_1 := cellS58_1 HGz6; have hcz6_2 := cellS58_2 HGz6; have hfz6_0 := blk_frozen HGz6 0; have hfz6_1 := blk_frozen HGz6 1; have hfz6_2 := blk_frozen HGz6 2; clear HGz6 hgz6))
 go_ret
 exact ⟨by first | rfl | (simp [errW_none, errW_some] <;> rfl) | (simp [*, errW_none, errW_some] <;> rfl) | (exfalso; simp_all only [aside0_iff, Option.some.injEq, reduceCtorEq]), by repeat (first | (with_reducible first | exact HI1.out | apply IsS58.alloc | apply IsS58.drewN | apply IsS58.drew | apply IsS58.set_0 | apply IsS58.set_1 | apply IsS58.set_2 | refine IsS58.far ?_ NB1_153.out _) | exact HI1.out), by repeat (first | (with_reducible first | exact HB.out | apply below_alloc | apply pw_below_drewN | apply below_drew1 | refine below_set ?_ (IsS58.ge HI1.out) | refine below_set ?_ GE153.out) | exact HB.out), by repeat (first | (with_reducible first | exact HK.out | apply KeepBut.set_ | apply keep_drewN | apply keep_drew | apply keep_alloc | refine keep_far ?_ GW153.out _) | exact HK.out)⟩

-- NOT PRINTED: function 56 (api_Blob)

/-! ### extent_Bytes: function 40, by hand -/
theorem drop_stepB {α : Type} (l : List α) (z : α) (i : Int) (h0 : 0 ≤ i) (h1 : i < (l.length : Int)) : l.drop i.toNat = l.getD i.toNat z :: l.drop (i + 1).toNat := by
 have hl : i.toNat < l.length := by omega
 rw [List.drop_eq_getElem_cons hl, show (i + 1).toNat = i.toNat + 1 by omega, List.getD_eq_getElem?_getD, List.getElem?_eq_getElem hl]
 rfl

set_option maxRecDepth 100000 in
theorem bytesAt_calls (x : Int) (A : Option Addr) (n c : Nat) (gp : Nat) (a : Int) (q : Bool) (hq : (x == a) = q) (w : World) (hp : w.cell? ⟨gp, 0, none⟩ = some (.int .i64 a)) :
  Calls Try.prog 57 #[.agg #[.int .i64 x, .slice A n c], .pointer (some ⟨gp, 0, none⟩)] w fun e w' => e = .returned (.bool q) ∧ Below w.heap.size w w' := by
 have hu58 := Try.underlying58
 have hu69 := Try.underlying69
 have hgi : gp < w.heap.size := World.block_lt_of_cell? w _ hp
 have hne : gp ≠ w.heap.size := by omega
 rw [← hq]
 clear hq
 go_enter Try.func57, Try.ntmps57
 go_wp2
 go_ret
 exact ⟨rfl, below_alloc (Below.refl _ _) _⟩

/-- Where the chunk a is, or -1. -/
def blobAt : List S69 → Int → Int → Int
 | [], _, _ => -1
 | x :: l, a, i => if (x.f0 == a) = true then i else blobAt l a (i + 1)

set_option maxHeartbeats 1000000 in
set_option maxRecDepth 100000 in
theorem blobIndex.calls (A0 : Option Addr) (c0 : Nat) (l0 : List S69) (gp : Nat) (a : Int) (w : World) (hr0 : Kd.C k69 w A0 l0.length l0) (hc0 : l0.length ≤ c0) (hp : w.cell? ⟨gp, 0, none⟩ = some (.int .i64 a)) :
  Calls Try.prog 56 #[.slice A0 l0.length c0, .func (.func 57) #[] #[.pointer (some ⟨gp, 0, none⟩)]] w fun e w' => e = .returned (.int .i64 (blobAt l0 a 0)) ∧ Below w.heap.size w w' := by
 have hu69 := Try.underlying69
 have hgi : gp < w.heap.size := World.block_lt_of_cell? w _ hp
 have hmax : l0.length ≤ 9223372036854775807 := hr0.2.1
 have HR0 := Aside0.mk hr0
 have HX := Aside0.mk hp
 clear hr0 hp
 obtain ⟨r, hrr⟩ : ∃ r, r = blobAt l0 a 0 := ⟨_, rfl⟩
 rw [← hrr]
 have HRR := Aside0.mk hrr
 clear hrr
 go_enter Try.func56, Try.ntmps56
 go_wp2
 go_loopw [8] (fun i wr => ∃ (x : Int), i = .int .i64 x ∧ 0 ≤ x ∧ x ≤ (l0.length : Int) ∧ Aside0 (r = blobAt (l0.drop x.toNat) a x) ∧ Aside0 (Below w.heap.size w wr)) (fun i _ => l0.length - (intOf i).toNat)
 case atStart => exact ⟨0, rfl, by omega, by omega, ⟨by simpa using HRR.out⟩, ⟨Below.refl _ _⟩⟩
 case round =>
  obtain ⟨x, rfl, hx0, hx1, HA, HB⟩ := hrel
  clear HRR
  by_cases c4 : x < (l0.length : Int)
  ·have h1 := HA.out
   rw [drop_stepB l0 z69 x hx0 c4] at h1
   have H1 := Aside0.mk h1
   clear h1 HA
   obtain ⟨ad, A1, c1, e1, hx_0, hx_1, _, _⟩ := at_T69 HR0.out x hx0 c4
   cases e1
   replace hx_0 := (HB.out.cell (World.block_lt_of_cell? w _ hx_0)).trans hx_0
   replace hx_1 := (HB.out.cell (World.block_lt_of_cell? w _ hx_1)).trans hx_1
   have c4b := decide_eq_true c4
   have hx0b := eq_true hx0
   have c4c := eq_true c4
   cases hq : ((rd_T69 l0 x).f0 == a) with
   | true =>
    have Hq := Aside0.mk hq
    clear hq
    go_wp2_with (go_at_call 57; (refine (bytesAt_calls _ _ _ _ gp a _ Hq.out _ ?sX).mono ?_); (case sX => exact (Below.cell HB.out hgi).trans HX.out); rintro e w1 ⟨rfl, hb1⟩)
    go_ret
    have h2 := H1.out
    unfold blobAt at h2
    rw [if_pos (show ((l0.getD x.toNat z69).f0 == a) = true from Hq.out)] at h2
    exact ⟨by rw [h2]; rfl, below_step HB.out hb1⟩
   | false =>
    have Hq := Aside0.mk hq
    clear hq
    go_wp2_with (go_at_call 57; (refine (bytesAt_calls _ _ _ _ gp a _ Hq.out _ ?sX).mono ?_); (case sX => exact (Below.cell HB.out hgi).trans HX.out); rintro e w1 ⟨rfl, hb1⟩)
    go_roundw
    case rel =>
     have h2 := H1.out
     unfold blobAt at h2
     rw [if_neg (show ¬ ((l0.getD x.toNat z69).f0 == a) = true by rw [show ((l0.getD x.toNat z69).f0 == a) = false from Hq.out]; decide)] at h2
     exact ⟨x + 1, rfl, by omega, by omega, ⟨h2⟩, ⟨below_step HB.out hb1⟩⟩
    case measure => simp [intOf]; omega
  ·have hxe : x = (l0.length : Int) := by omega
   have h1 := HA.out
   rw [hxe, Int.toNat_natCast, List.drop_length] at h1
   have H1 := Aside0.mk h1
   clear h1 hxe HA
   have c4b := decide_eq_false c4
   go_wp2
   go_ret
   exact ⟨by rw [H1.out]; rfl, HB.out⟩

/-- The bytes of the pieces, after out. -/
def bytesOut (l : List S69) : List S58 → List Int → Option (List Int × Int)
 | [], out => some (out, 0)
 | p :: b, out =>
  if 0 ≤ p.f1 ∧ 1 ≤ p.f2 ∧ p.f2 ≤ 1073741824 ∧ out.length ≤ 1099511627776 ∧ p.f1 ≤ 1073741824 then
   if p.f0 > 0 then
    if blobAt l p.f0 0 < 0 then some ([], 90) else
    if wrap64 (((l.getD (blobAt l p.f0 0).toNat z69).f1.length : Int) - p.f1) < p.f2 then some ([], 90) else
    bytesOut l b (out ++ (((l.getD (blobAt l p.f0 0).toNat z69).f1.drop p.f1.toNat).take p.f2.toNat))
   else bytesOut l b (out ++ List.replicate p.f2.toNat 0)
  else none
def extent_Bytes.f (l0 : List S58) (l1 : List S69) : Option (List Int × Int) :=
 if (l0.any fun p => p.f0 == -1) = true then some ([], 60) else bytesOut l1 l0 []

theorem gone_any (l : List S58) (hm : l.length ≤ 9223372036854775807) : ∀ (d k : Nat) (i : Int), 0 ≤ i → i ≤ l.length → (l.length : Int) - i = d → d < k →
  ∃ j, api_Piece_62.l0 k l (l.length : Int) i = some j ∧ (j ≥ 0 ↔ ((l.drop i.toNat).any fun p => p.f0 == -1) = true) := by
 intro d
 induction d with
 | zero =>
  intro k i h0 h1 hd hk
  obtain ⟨k, rfl⟩ : ∃ m, k = m + 1 := ⟨k - 1, by omega⟩
  refine ⟨-1, by simp only [api_Piece_62.l0]; rw [if_neg (by omega)], ?_⟩
  rw [List.drop_of_length_le (by omega)]
  simp
 | succ d ih =>
  intro k i h0 h1 hd hk
  obtain ⟨k, rfl⟩ : ∃ m, k = m + 1 := ⟨k - 1, by omega⟩
  have hdr := drop_stepB l z58 i h0 (by omega)
  simp only [api_Piece_62.l0]
  rw [if_pos (by omega), if_pos h0, if_pos (by omega)]
  simp only [extent_Bytes_1.f, Option.bind_some]
  rw [hdr, List.any_cons]
  obtain ⟨j, hj, hi⟩ := ih k (i + 1) (by omega) (by omega) (by omega) (by omega)
  by_cases he : (l.getD i.toNat z58).f0 = -1
  ·rw [if_pos (by simpa [rd_T58] using he)]
   exact ⟨i, rfl, fun _ => by rw [he]; rfl, fun _ => h0⟩
  ·rw [if_neg (by simpa [rd_T58] using he), show wrap64 (i + 1) = i + 1 by unfold wrap64; omega]
   refine ⟨j, hj, hi.trans ?_⟩
   rw [show ((l.getD i.toNat z58).f0 == -1) = false from beq_eq_false_iff_ne.2 he, Bool.false_or]

theorem gone_all (l : List S58) (hm : l.length ≤ 9223372036854775807) : api_Piece_54.f (l.length + 1) l = some (l.any fun p => p.f0 == -1) := by
 obtain ⟨j, hj, hi⟩ := gone_any l hm l.length (l.length + 1) 0 (by omega) (by omega) (by omega) (by omega)
 unfold api_Piece_54.f api_Piece_62.f
 rw [hj]
 simp only [Option.bind_some, Option.some.injEq]
 rw [Bool.eq_iff_iff]
 simpa using hi

theorem blobAt_lt : ∀ (l : List S69) (a i : Int), 0 ≤ i → blobAt l a i = -1 ∨ (i ≤ blobAt l a i ∧ blobAt l a i < i + l.length)
 | [], a, i, h => .inl rfl
 | x :: l, a, i, h => by
  unfold blobAt
  split
  ·exact .inr ⟨by omega, by simp only [List.length_cons]; omega⟩
  ·rcases blobAt_lt l a (i + 1) (by omega) with h1 | h1
   ·exact .inl h1
   ·exact .inr ⟨by omega, by simp only [List.length_cons]; omega⟩

theorem own_u8 {w : World} {base g cap e : Nat} {cur : Array Value} {ds : List Int} (hg : w.heap[g]? = some (.cells cur e (0, 0))) (hb : base ≤ g) (hl : ds.length ≤ cap) (hm : cap ≤ maxLen) (hs : cur.size = cap * 1) (ht : cur.toList.take (ds.length * 1) = ds.map (Value.int .u8)) :
  Kd.R (Kd.int .u8) e w base (fun _ => True) (.slice (some ⟨g, 0, none⟩) ds.length cap) ds := by
 refine ⟨fun _ _ => trivial, ds.map (Value.int .u8), ⟨by rw [List.length_map]; exact (Nat.mul_one _).symm, .inr ⟨g, cap, cur, rfl, hb, hg, hl, hm, hs, ht⟩⟩, ?_, fun j p hp => ?_⟩
 ·rw [List.length_map]; exact (Nat.mul_one _).symm
 ·show ((ds.map (Value.int .u8)).drop (j * 1)).take 1 = [.int .u8 p]
  obtain ⟨h1, h2⟩ := List.getElem?_eq_some_iff.1 hp
  rw [Nat.mul_one, List.drop_eq_getElem_cons (by simpa using h1), List.getElem_map, h2]
  rfl

theorem infoByte : (Try.prog.info? 5).map (fun i => (i.zero, i.size, i.bytes)) = some (some (.int .u8 0), 1, 1) := by kernel_rfl

set_option maxHeartbeats 1000000 in
set_option maxRecDepth 100000 in
theorem extent_Bytes.calls (A0 : Option Addr) (c0 : Nat) (l0 : List (S58)) (A1 : Option Addr) (c1 : Nat) (l1 : List (S69)) (r1 : List Int) (r2 : Int) (w : World) (hr0 : Kd.C k58 w A0 l0.length l0) (hc0 : l0.length ≤ c0) (hr1 : Kd.C k69 w A1 l1.length l1) (hc1 : l1.length ≤ c1) (h : extent_Bytes.f l0 l1 = some (r1, r2)) :
  Calls Try.prog 40 #[.slice A0 l0.length c0, .slice A1 l1.length c1] w fun e w' => ∃ v0_ : Value, e = .returned (.tuple #[v0_, .int .i64 r2]) ∧ Kd.R (Kd.int .u8) 5 w' w.heap.size (fun _ => True) v0_ r1 ∧ Below w.heap.size w w' := by
 have hu58 := Try.underlying58
 have hu69 := Try.underlying69
 have hu50 := Try.underlying50
 have hmax : l0.length ≤ 9223372036854775807 := hr0.2.1
 have HR0 := Aside0.mk hr0
 have HR1 := Aside0.mk hr1
 have HG := Aside0.mk (gone_all l0 hmax)
 clear hr0 hr1
 unfold extent_Bytes.f at h
 cases ht : (l0.any fun p => p.f0 == -1) with
 | true =>
  rw [if_pos ht] at h
  obtain ⟨rfl, rfl⟩ := Prod.mk.inj (Option.some.inj h)
  rw [ht] at HG
  clear h ht
  go_enter Try.func40, Try.ntmps40
  go_wp2_with (go_at_call 54; (refine (api_Piece_54.calls (l0.length + 1) A0 c0 l0 true _ HR0.out hc0 HG.out).mono ?_); rintro e w1 ⟨rfl, hb1⟩)
  go_ret2
  exact ⟨_, rfl, Kd.R_nil _ _ _ _ _, hb1⟩
 | false =>
  rw [if_neg (by rw [ht]; decide)] at h
  rw [ht] at HG
  have H := Aside0.mk h
  clear h ht
  go_enter Try.func40, Try.ntmps40
  go_wp2_with (go_at_call 54; (refine (api_Piece_54.calls (l0.length + 1) A0 c0 l0 false _ HR0.out hc0 HG.out).mono ?_); rintro e w1 ⟨rfl, hb1⟩)
  go_loopw [6, 15] (fun v i wr => ∃ (x : Int) (out : List Int), i = .int .i64 x ∧ 0 ≤ x ∧ x ≤ (l0.length : Int) ∧ Aside0 (bytesOut l1 (l0.drop x.toNat) out = some (r1, r2)) ∧ Aside0 (Kd.R (Kd.int .u8) 5 wr w.heap.size (fun _ => True) v out) ∧ Aside0 (Below w.heap.size w wr)) (fun _ i _ => l0.length - (intOf i).toNat)
  case atStart => exact ⟨0, [], rfl, by omega, by omega, ⟨by simpa using H.out⟩, ⟨Kd.R_nil _ _ _ _ _⟩, ⟨hb1⟩⟩
  case round =>
   obtain ⟨x, out, rfl, hx0, hx1, HA, HO, HB⟩ := hrel
   clear H
   by_cases c4 : x < (l0.length : Int)
   ·have h1 := HA.out
    rw [show l0.drop x.toNat = rd_T58 l0 x :: l0.drop (x + 1).toNat from drop_stepB l0 z58 x hx0 c4] at h1
    unfold bytesOut at h1
    obtain ⟨ad, e1, hx_0, hx_1, hx_2⟩ := at_T58 HR0.out x hx0 c4
    cases e1
    replace hx_0 := (HB.out.cell (World.block_lt_of_cell? w _ hx_0)).trans hx_0
    replace hx_1 := (HB.out.cell (World.block_lt_of_cell? w _ hx_1)).trans hx_1
    replace hx_2 := (HB.out.cell (World.block_lt_of_cell? w _ hx_2)).trans hx_2
    have c4b := decide_eq_true c4
    have hx0b := eq_true hx0
    have c4c := eq_true c4
    by_cases hg : 0 ≤ (rd_T58 l0 x).f1 ∧ 1 ≤ (rd_T58 l0 x).f2 ∧ (rd_T58 l0 x).f2 ≤ 1073741824 ∧ out.length ≤ 1099511627776 ∧ (rd_T58 l0 x).f1 ≤ 1073741824
    case neg => rw [if_neg hg] at h1; exact absurd h1 (by simp)
    rw [if_pos hg] at h1
    by_cases hp : (rd_T58 l0 x).f0 > 0
    ·have h2 := h1
     rw [if_pos hp] at h2
     clear h1
     have HGd := Aside0.mk hg
     clear HA hg
     have hp' : decide (0 < (rd_T58 l0 x).f0) = true := decide_eq_true hp
     obtain ⟨j, hj⟩ : ∃ j, j = blobAt l1 (rd_T58 l0 x).f0 0 := ⟨_, rfl⟩
     rw [← hj] at h2
     have HJ := Aside0.mk hj
     clear hj
     by_cases hj0 : j < 0
     ·rw [if_pos hj0] at h2
      obtain ⟨rfl, rfl⟩ := Prod.mk.inj (Option.some.inj h2)
      clear h2
      have hj1 := decide_eq_true hj0
      go_wp2_with (first | (at_make; go_loud (refine Kd.R_make (Kd.int .u8) (w0 := wr) wr.heap.size 5 rfl rfl 50 (.tmp 20) (.tmp 20) rfl (rd_T58 l0 x).f2 rfl rfl hu50 (.int .u8 0) 1 infoByte rfl (by decide) (by decide) 0 (ok := fun _ => True) (okp := fun _ => True) rfl (fun _ _ => trivial) trivial (by have := HGd.out; omega) ?aL (below_alloc (Below.refl _ _) _) ?aS ?_); (case aL => have := HGd.out; omega); (case aS => simp); rintro v1 w1 hv1 hb1 hg1 hat1; (obtain ⟨Ad, cd, rfl, hcd, hrd⟩ := Kd.R_reads hv1); have hp0 : w1.cell? ⟨wr.heap.size, 0, none⟩ = some (.int .i64 (rd_T58 l0 x).f0) := hg1.cell (by rw [World.cell?_alloc_new]; rfl) (by simp); have hp1 : w1.cell? ⟨wr.heap.size, 1, none⟩ = some (.int .i64 (rd_T58 l0 x).f1) := hg1.cell (by rw [World.cell?_alloc_new]; rfl) (by simp); have hp2 : w1.cell? ⟨wr.heap.size, 2, none⟩ = some (.int .i64 (rd_T58 l0 x).f2) := hg1.cell (by rw [World.cell?_alloc_new]; rfl) (by simp); have HB1 := Aside0.mk hb1; have HG1 := Aside0.mk hg1; have HV := Aside0.mk hv1; have HD := Aside0.mk hrd; clear hv1 hb1 hg1 hat1 hrd) | (go_at_call 56; (refine (blobIndex.calls _ c1 l1 wr.heap.size (rd_T58 l0 x).f0 _ (Kd.C_below HR1.out (below_step HB.out HB1.out)) hc1 hp0).mono ?_); rintro e w2 ⟨rfl, hb2⟩; rw [← HJ.out]))
      go_quiet (fail)
      go_wp2
      go_ret2
      exact ⟨_, rfl, Kd.R_nil _ _ _ _ _, by repeat (first | exact below_step (below_step HB.out HB1.out) hb2 | apply pw_below_drewN | apply below_drew1)⟩
     ·rw [if_neg hj0] at h2
      have hj1 := decide_eq_false hj0
      have hjl : j < (l1.length : Int) := by have := HJ.out; have := blobAt_lt l1 (rd_T58 l0 x).f0 0 (by omega); omega
      have hjl1 := eq_true hjl
      have hj2 : 0 ≤ j := by omega
      have hj3 := eq_true hj2
      obtain ⟨ad1, A2, c2, e1, hy_0, hy_1, hyc, hyr⟩ := at_T69 HR1.out j hj2 hjl
      cases e1
      have hdm := hyr.2.1
      have HY := Aside0.mk hyr
      have HY1 := Aside0.mk hy_1
      clear hyr hy_0 hy_1
      change (if wrap64 (((rd_T69 l1 j).f1.length : Int) - (rd_T58 l0 x).f1) < (rd_T58 l0 x).f2 then some ([], 90) else bytesOut l1 (l0.drop (x + 1).toNat) (out ++ (((rd_T69 l1 j).f1.drop (rd_T58 l0 x).f1.toNat).take (rd_T58 l0 x).f2.toNat))) = some (r1, r2) at h2
      by_cases hq : wrap64 (((rd_T69 l1 j).f1.length : Int) - (rd_T58 l0 x).f1) < (rd_T58 l0 x).f2
      ·rw [if_pos hq] at h2
       obtain ⟨rfl, rfl⟩ := Prod.mk.inj (Option.some.inj h2)
       clear h2
       have hq1 := decide_eq_true hq
       go_wp2_with (first | (at_make; go_loud (refine Kd.R_make (Kd.int .u8) (w0 := wr) wr.heap.size 5 rfl rfl 50 (.tmp 20) (.tmp 20) rfl (rd_T58 l0 x).f2 rfl rfl hu50 (.int .u8 0) 1 infoByte rfl (by decide) (by decide) 0 (ok := fun _ => True) (okp := fun _ => True) rfl (fun _ _ => trivial) trivial (by have := HGd.out; omega) ?aL (below_alloc (Below.refl _ _) _) ?aS ?_); (case aL => have := HGd.out; omega); (case aS => simp); rintro v1 w1 hv1 hb1 hg1 hat1; (obtain ⟨Ad, cd, rfl, hcd, hrd⟩ := Kd.R_reads hv1); have hp0 : w1.cell? ⟨wr.heap.size, 0, none⟩ = some (.int .i64 (rd_T58 l0 x).f0) := hg1.cell (by rw [World.cell?_alloc_new]; rfl) (by simp); have hp1 : w1.cell? ⟨wr.heap.size, 1, none⟩ = some (.int .i64 (rd_T58 l0 x).f1) := hg1.cell (by rw [World.cell?_alloc_new]; rfl) (by simp); have hp2 : w1.cell? ⟨wr.heap.size, 2, none⟩ = some (.int .i64 (rd_T58 l0 x).f2) := hg1.cell (by rw [World.cell?_alloc_new]; rfl) (by simp); have HB1 := Aside0.mk hb1; have HG1 := Aside0.mk hg1; have HV := Aside0.mk hv1; have HD := Aside0.mk hrd; clear hv1 hb1 hg1 hat1 hrd) | (go_at_call 56; (refine (blobIndex.calls _ c1 l1 wr.heap.size (rd_T58 l0 x).f0 _ (Kd.C_below HR1.out (below_step HB.out HB1.out)) hc1 hp0).mono ?_); rintro e w2 ⟨rfl, hb2⟩; rw [← HJ.out]))
       have hz0 := (below_step (below_step HB.out HB1.out) hb2).cell (World.block_lt_of_cell? w _ HY1.out) |>.trans HY1.out
       have hp1' := (hb2.cell (World.block_lt_of_cell? _ _ hp1)).trans hp1
       have hp2' := (hb2.cell (World.block_lt_of_cell? _ _ hp2)).trans hp2
       go_quiet (fail)
       go_wp2
       go_ret2
       exact ⟨_, rfl, Kd.R_nil _ _ _ _ _, by repeat (first | exact below_step (below_step HB.out HB1.out) hb2 | apply pw_below_drewN | apply below_drew1)⟩
      ·rw [if_neg hq] at h2
       have hq1 := decide_eq_false hq
       have hqq : (rd_T58 l0 x).f1 + (rd_T58 l0 x).f2 ≤ ((rd_T69 l1 j).f1.length : Int) := by have := HGd.out; unfold wrap64 at hq; omega
       have HQQ := Aside0.mk hqq
       have hs1 : (rd_T58 l0 x).f1 ≤ ((rd_T69 l1 j).f1.length : Int) := by have := HGd.out; omega
       have hs0 := HGd.out.1
       have H2 := Aside0.mk h2
       clear h2 hqq
       go_wp2_with (first | (at_make; go_loud (refine Kd.R_make (Kd.int .u8) (w0 := wr) wr.heap.size 5 rfl rfl 50 (.tmp 20) (.tmp 20) rfl (rd_T58 l0 x).f2 rfl rfl hu50 (.int .u8 0) 1 infoByte rfl (by decide) (by decide) 0 (ok := fun _ => True) (okp := fun _ => True) rfl (fun _ _ => trivial) trivial (by have := HGd.out; omega) ?aL (below_alloc (Below.refl _ _) _) ?aS ?_); (case aL => have := HGd.out; omega); (case aS => simp); rintro v1 w1 hv1 hb1 hg1 hat1; (obtain ⟨Ad, cd, rfl, hcd, hrd⟩ := Kd.R_reads hv1); have hp0 : w1.cell? ⟨wr.heap.size, 0, none⟩ = some (.int .i64 (rd_T58 l0 x).f0) := hg1.cell (by rw [World.cell?_alloc_new]; rfl) (by simp); have hp1 : w1.cell? ⟨wr.heap.size, 1, none⟩ = some (.int .i64 (rd_T58 l0 x).f1) := hg1.cell (by rw [World.cell?_alloc_new]; rfl) (by simp); have hp2 : w1.cell? ⟨wr.heap.size, 2, none⟩ = some (.int .i64 (rd_T58 l0 x).f2) := hg1.cell (by rw [World.cell?_alloc_new]; rfl) (by simp); have HB1 := Aside0.mk hb1; have HG1 := Aside0.mk hg1; have HV := Aside0.mk hv1; have HD := Aside0.mk hrd; clear hv1 hb1 hg1 hat1 hrd) | (go_at_call 56; (refine (blobIndex.calls _ c1 l1 wr.heap.size (rd_T58 l0 x).f0 _ (Kd.C_below HR1.out (below_step HB.out HB1.out)) hc1 hp0).mono ?_); rintro e w2 ⟨rfl, hb2⟩; rw [← HJ.out]))
       have hz0 := (below_step (below_step HB.out HB1.out) hb2).cell (World.block_lt_of_cell? w _ HY1.out) |>.trans HY1.out
       have hp1' := (hb2.cell (World.block_lt_of_cell? _ _ hp1)).trans hp1
       have hp2' := (hb2.cell (World.block_lt_of_cell? _ _ hp2)).trans hp2
       go_quiet (fail)
       go_wp2
       ·exfalso
        have := HQQ.out
        omega
       refine wp_region_still_tail 9 (by kernel_rfl) (by kernel_rfl) ?_
       generalize hw3 : w2.drewN nq = w3
       change wpStill _ _ (World.drew w3) (fun a' => wpList _ _ _ _ a' (World.drew w3)) _ _
       have HB4 : Below w2.heap.size w2 (World.drew w3) := by rw [← hw3]; repeat (first | exact Below.refl _ _ | apply pw_below_drewN | apply below_drew1)
       replace hz0 := (HB4.cell (World.block_lt_of_cell? _ _ hz0)).trans hz0
       replace hp1' := (HB4.cell (World.block_lt_of_cell? _ _ hp1')).trans hp1'
       replace hp2' := (HB4.cell (World.block_lt_of_cell? _ _ hp2')).trans hp2'
       have HB5 := Aside0.mk HB4
       generalize World.drew w3 = w4 at *
       clear HB4 hw3
       simp only [List.take_succ_cons, List.take_zero, List.drop_succ_cons, List.drop_zero]
       repeat still_step
       refine wpStill_nil ?_
       have hn0 : 0 < (List.replicate (rd_T58 l0 x).f2.toNat (0 : Int)).length := by have := HGd.out; rw [List.length_replicate]; omega
       obtain ⟨inner, -, ho⟩ := Kd.R_own HV.out
       rcases ho with ⟨-, hz⟩ | ⟨g, cap, cur, he, hgb, hgh, hgc, hgm, hgs, hgt⟩
       ·omega
       injection he with he1 he2 he3
       subst he1
       subst he3
       have hgl : g < w1.heap.size := (Array.getElem?_eq_some_iff.1 hgh).1
       rw [List.length_replicate] at hn0
       have hgh2 := ((HB5.out.block g (Nat.lt_of_lt_of_le hgl hb2.size)).trans (hb2.block g hgl)).trans hgh
       have hdl : (((rd_T69 l1 j).f1.drop (rd_T58 l0 x).f1.toNat).take (rd_T58 l0 x).f2.toNat).length = (rd_T58 l0 x).f2.toNat := by
        have := HQQ.out
        have := HGd.out
        rw [List.length_take, List.length_drop]
        omega
       generalize hds : ((rd_T69 l1 j).f1.drop (rd_T58 l0 x).f1.toNat).take (rd_T58 l0 x).f2.toNat = ds at *
       refine wpList_copy_splice rfl (.tmp 44) (.tmp 52) 50 50 rfl 5 hu50 (by kernel_rfl) _ _ _ _ _ _ rfl rfl g 0 cur.toList 5 (by rw [hgh2]) (ds.map (Value.int .u8)) ?hn ?hpos ?hfit ?h1 wr.heap.size wr ?hb hgb ?_
       case hn =>
        have := HQQ.out
        have := HGd.out
        rw [List.length_map, hdl]
        show _ = min _ _
        omega
       case hfit => rw [List.length_map, hdl, Array.length_toList, hgs]; rw [List.length_replicate] at hgc; show _ ≤ cd * 1; omega
       case h1 =>
        intro v hv
        obtain ⟨y, -, rfl⟩ := List.mem_map.1 hv
        rfl
       case hb => exact below_step (below_step HB1.out hb2) HB5.out
       case hpos =>
        intro _
        refine ⟨rfl, ?_⟩
        have hq2 := HQQ.out
        have hg2 := HGd.out
        obtain ⟨ad2, e2, hcell⟩ := HY.out.2.2 (by omega)
        subst e2
        rw [if_neg (by omega)]
        refine ⟨_, rfl, fun t v hv => ?_⟩
        rw [← hds] at hv
        obtain ⟨y, hy, rfl⟩ := by rw [List.getElem?_map] at hv; exact Option.map_eq_some_iff.1 hv
        have hy1 : (rd_T69 l1 j).f1[(rd_T58 l0 x).f1.toNat + t]? = some y := by
         rw [List.getElem?_take] at hy
         split at hy
         ·rw [List.getElem?_drop] at hy; exact hy
         ·exact absurd hy (by simp)
        obtain ⟨c, -, hK, hc⟩ := hcell _ _ hy1
        cases (show c = [.int .u8 y] from hK)
        have h7 := hc 0 _ rfl
        have h8 := ((below_step (below_step (below_step HB.out HB1.out) hb2) HB5.out).cell (World.block_lt_of_cell? w _ h7)).trans h7
        rw [show (ad2.add (rd_T58 l0 x).f1.toNat).add t = ad2.add (((rd_T58 l0 x).f1.toNat + t) * (Kd.int IntKind.u8).sz + 0) by rw [Addr.add_add]; congr 1; show _ = (_ + t) * 1 + 0; omega]
        exact h8
       intro w5 hg5 hb5
       have hv5 : Kd.R (Kd.int .u8) 5 w5 wr.heap.size (fun _ => True) (.slice (some ⟨g, 0, none⟩) ds.length cd) ds := own_u8 hg5.out hgb (by rw [hdl]; rw [List.length_replicate] at hgc; exact hgc) hgm (by rw [List.size_toArray, length_splice _ _ _ (by rw [List.length_map, hdl, Array.length_toList, hgs]; rw [List.length_replicate] at hgc; show _ ≤ cd * 1; omega), Array.length_toList]; exact hgs) (by simp [splice])
       obtain ⟨_, _, he9, _, hr5⟩ := Kd.R_reads hv5
       injection he9 with he91 he92 he93
       subst he91
       clear he92 he93
       have HR5 := Aside0.mk hr5
       have HB6 := Aside0.mk hb5
       clear hr5 hb5 hv5 hg5
       go_wp2_with (at_builtin; go_loud (refine Kd.R_append_rows (Kd.int .u8) (w0 := w) w.heap.size rfl (.tmp 54) (.tmp 55) 50 5 (.int .u8 0) 1 rfl hu50 infoByte rfl (by decide) (by decide) _ out ds _ _ _ (fun _ => True) (fun _ => False) rfl rfl (Kd.R_below HO.out HB6.out) (show Kd.C (Kd.int .u8) _ _ _ _ from (by have h9 := HR5.out; rw [hdl] at h9; exact h9)) (fun _ _ h => h) (fun _ h => h.elim) (fun _ _ => trivial) (below_step HB.out HB6.out) ?aS ?aL ?_); (case aS => have h1 := HB.out.size; have h2 := HB6.out.size; omega); (case aL => have := HGd.out; omega); rintro v2 w2' hv2 hb2' hg2 hat2)
       go_roundw
       case rel => exact ⟨x + 1, out ++ ds, rfl, by omega, by omega, H2, ⟨hv2⟩, ⟨hb2'⟩⟩
       case measure => simp [intOf]; omega
    ·rw [if_neg hp] at h1
     have H1 := Aside0.mk h1
     have HGd := Aside0.mk hg
     clear h1 HA hg
     have hp' : decide (0 < (rd_T58 l0 x).f0) = false := decide_eq_false hp
     go_wp2_with (first | (at_make; go_loud (refine Kd.R_make (Kd.int .u8) (w0 := wr) wr.heap.size 5 rfl rfl 50 (.tmp 20) (.tmp 20) rfl (rd_T58 l0 x).f2 rfl rfl hu50 (.int .u8 0) 1 infoByte rfl (by decide) (by decide) 0 (ok := fun _ => True) (okp := fun _ => True) rfl (fun _ _ => trivial) trivial (by have := HGd.out; omega) ?aL (below_alloc (Below.refl _ _) _) ?aS ?_); (case aL => have := HGd.out; omega); (case aS => simp); rintro v1 w1 hv1 hb1 hg1 hat1; (obtain ⟨Ad, cd, rfl, hcd, hrd⟩ := Kd.R_reads hv1); have hp0 : w1.cell? ⟨wr.heap.size, 0, none⟩ = some (.int .i64 (rd_T58 l0 x).f0) := hg1.cell (by rw [World.cell?_alloc_new]; rfl) (by simp); have hp1 : w1.cell? ⟨wr.heap.size, 1, none⟩ = some (.int .i64 (rd_T58 l0 x).f1) := hg1.cell (by rw [World.cell?_alloc_new]; rfl) (by simp); have hp2 : w1.cell? ⟨wr.heap.size, 2, none⟩ = some (.int .i64 (rd_T58 l0 x).f2) := hg1.cell (by rw [World.cell?_alloc_new]; rfl) (by simp); have HB1 := Aside0.mk hb1; have HG1 := Aside0.mk hg1; have HV := Aside0.mk hv1; have HD := Aside0.mk hrd; clear hv1 hb1 hg1 hat1 hrd) | (at_builtin; go_loud (refine Kd.R_append_rows (Kd.int .u8) (w0 := w) w.heap.size rfl (.tmp 54) (.tmp 55) 50 5 (.int .u8 0) 1 rfl hu50 infoByte rfl (by decide) (by decide) _ out (List.replicate (rd_T58 l0 x).f2.toNat 0) Ad _ cd (fun _ => True) (fun _ => False) rfl rfl (Kd.R_below HO.out HB1.out) (show Kd.C (Kd.int .u8) _ Ad _ _ from (by have h9 := HD.out; rw [List.length_replicate] at h9; exact h9)) (fun _ _ h => h) (fun _ h => h.elim) (fun _ _ => trivial) (below_step HB.out HB1.out) ?aS ?aL ?_); (case aS => have h1 := HB.out.size; have h2 := HB1.out.size; omega); (case aL => go_loud (have := HGd.out; (try rw [List.length_replicate]); omega)); rintro v2 w2 hv2 hb2 hg2 hat2))
     go_roundw
     case rel => exact ⟨x + 1, out ++ List.replicate (rd_T58 l0 x).f2.toNat 0, rfl, by omega, by omega, H1, ⟨hv2⟩, ⟨hb2⟩⟩
     case measure => simp [intOf]; omega
   ·have hxe : x = (l0.length : Int) := by omega
    have h1 := HA.out
    rw [hxe, Int.toNat_natCast, List.drop_length] at h1
    unfold bytesOut at h1
    obtain ⟨rfl, rfl⟩ := Prod.mk.inj (Option.some.inj h1)
    clear h1 hxe HA
    have c4b := decide_eq_false c4
    go_wp2
    go_ret2
    exact ⟨_, rfl, HO.out, HB.out⟩

/-! ### l08_read: function 25 -/
def l08_read.f (l0 : List (S58)) (l1 : List (S69)) : Option (List Int × Int) := (extent_Bytes.f l0 l1).bind fun bt160 => (some (bt160.1, bt160.2))
set_option maxHeartbeats 8000000 in
set_option maxRecDepth 100000 in
theorem l08_read.calls (A0 : Option Addr) (c0 : Nat) (l0 : List (S58)) (A1 : Option Addr) (c1 : Nat) (l1 : List (S69)) (r1 : List Int) (r2 : Int) (w : World) (hr0 : Kd.C k58 w A0 l0.length l0) (hc0 : l0.length ≤ c0) (hr1 : Kd.C k69 w A1 l1.length l1) (hc1 : l1.length ≤ c1) (h : l08_read.f l0 l1 = some (r1, r2)) :
  Calls Try.prog 25 #[.slice A0 l0.length c0, .slice A1 l1.length c1] w fun e w' => ∃ v0_ : Value, e = .returned (.agg #[v0_, .int .i64 r2]) ∧ Kd.R (Kd.int .u8) 5 w' w.heap.size (fun _ => True) v0_ r1 ∧ Below w.heap.size w w' := by
 have hu52 := Try.underlying52
 have HR0 := Aside0.mk hr0
 have HC0 := Aside0.mk hc0
 clear hr0 hc0
 have HR1 := Aside0.mk hr1
 have HC1 := Aside0.mk hc1
 clear hr1 hc1
 have HB := Aside0.mk (Below.refl w.heap.size w)
 have H : ((extent_Bytes.f l0 l1).bind fun bt160 => (some (bt160.1, bt160.2))) = some (r1, r2) := h
 clear h
 replace H := Option.bind_eq_some_iff.mp H
 obtain ⟨⟨t160, t161⟩, A30, H⟩ := H
 replace H : (some (t160, t161)) = some (r1, r2) := H
 have A3 := Aside0.mk A30
 clear A30
 simp only [Option.some.injEq, Prod.mk.injEq] at H
 obtain ⟨rfl, rfl⟩ := H
 go_enter Try.func25, Try.ntmps25
 go_wp2_with (first | ((with_reducible refine gate_dst (N := 4) rfl ?_); refine box_event ?hg (N := 4) ?hd (cs := #[.slice none 0 0, .int .i64 0]) (t := 52) ?hr ?_; (case hd => rfl); (case hg => rfl); (case hr => first | (go_simp; done) | (go_simp; rfl)); intro gb159 hg w4 hbox hb; have n0_ := Aside0.mk (below_step (by repeat (first | (with_reducible first | exact HB.out | apply below_alloc | apply pw_below_drewN | apply below_drew1) | exact HB.out)) hb); have n1_ := Aside0.mk (hbox); have n2_ := Aside0.mk ((by rw [hg]; exact (below_size (by repeat (first | (with_reducible first | exact HB.out | apply below_alloc | apply pw_below_drewN | apply below_drew1) | exact HB.out))) : w.heap.size ≤ gb159)); have n3_ := Aside0.mk ((by rw [hg]; exact (below_size (by repeat (first | (with_reducible first | exact HB.out | apply below_alloc | apply pw_below_drewN | apply below_drew1) | exact HB.out))) : w.heap.size ≤ gb159)); clear HB; have HB := n0_; have BK159 := n1_; have GW159 := n2_; have GE159 := n3_; clear n0_ n1_ n2_ n3_; clear hb hbox hg) | ((with_reducible refine gate_callee (f := 40) rfl ?_); refine goesL_ (some 10) rfl rfl Try.func40 (by kernel_rfl) rfl #[.slice A0 l0.length c0, .slice A1 l1.length c1] rfl (by (try simp only [List.map_toArray, List.map_cons, List.map_nil]); first | done | rfl | (simp only [List.length_drop, List.length_take]; rfl)) ?_; (with_reducible refine (extent_Bytes.calls _ _ l0 _ _ l1 t160 t161 _ ?side1 ?side2 ?side3 ?side4 A3.out).mono ?_); (case side1 => repeat (first | exact (Kd.C_below HR0.out HB.out) | (with_reducible refine Kd.C_alloc ?_ _) | (with_reducible refine Kd.C_drewN ?_ _) | (with_reducible refine Kd.C_drew ?_))); (case side2 => exact HC0.out); (case side3 => repeat (first | exact (Kd.C_below HR1.out HB.out) | (with_reducible refine Kd.C_alloc ?_ _) | (with_reducible refine Kd.C_drewN ?_ _) | (with_reducible refine Kd.C_drew ?_))); (case side4 => exact HC1.out); rintro e w5 ⟨v162, rfl, ho0, hb⟩; refine ⟨_, rfl, ?_⟩; have n0_ := Aside0.mk (Kd.R_lower ho0 (below_size (by repeat (first | (with_reducible first | exact HB.out | apply below_alloc | apply pw_below_drewN | apply below_drew1 | refine below_set ?_ GE159.out) | exact HB.out)))); have n1_ := Aside0.mk (blk_below (g := gb159) (o := .cells #[.slice none 0 0, .int .i64 0] 52 (0, 0)) (by (with_reducible repeat (first | refine blk_drewN ?_ _ | refine blk_drew ?_ | refine blk_alloc ?_ _)); exact BK159.out) hb); have n2_ := Aside0.mk (below_step (by repeat (first | (with_reducible first | exact HB.out | apply below_alloc | apply pw_below_drewN | apply below_drew1 | refine below_set ?_ GE159.out) | exact HB.out)) hb); clear BK159; clear HB; have HO163 := n0_; have BK159 := n1_; have HB := n2_; clear n0_ n1_ n2_; (try clear hb); (try clear hb2); (try clear hk); (try clear hi); (try clear ho0); obtain ⟨Ao6, co6, eo6⟩ := Kd.R_slice HO163.out; subst eo6; have hcz7_0 : w5.cell? ⟨gb159, 0, none⟩ = some (.slice none 0 0) := (blk_cell BK159.out 0).trans rfl; have hcz7_1 : w5.cell? ⟨gb159, 1, none⟩ = some (.int .i64 0) := (blk_cell BK159.out 1).trans rfl; have hfz7_0 := blk_frozen BK159.out 0; have hfz7_1 := blk_frozen BK159.out 1))
 refine bodyPost_ret (results_cell_row rfl _ _ gb159 52 #[.slice Ao6 t160.length co6, .int .i64 t161] (0, 0) _ rfl (by (with_reducible repeat (first | refine blk_drewN ?_ _ | refine blk_drew ?_ | refine blk_alloc ?_ _)); refine blk_put (cs := #[.slice Ao6 t160.length co6, .int .i64 0]) ?_ 1 _ rfl; (with_reducible repeat (first | refine blk_drewN ?_ _ | refine blk_drew ?_ | refine blk_alloc ?_ _)); refine blk_put (cs := #[.slice none 0 0, .int .i64 0]) ?_ 0 _ rfl; (with_reducible repeat (first | refine blk_drewN ?_ _ | refine blk_drew ?_ | refine blk_alloc ?_ _)); exact BK159.out) Try.underlying52 rfl (by kernel_rfl)) rfl ?_
 exact ⟨_, by first | rfl | (simp [errW_none, errW_some] <;> rfl) | (simp [*, errW_none, errW_some] <;> rfl) | (exfalso; simp_all only [aside0_iff, Option.some.injEq, reduceCtorEq]), by (with_reducible repeat (first | apply Kd.R_alloc | apply Kd.R_drewN | apply Kd.R_drew)); exact Kd.R_mono (Kd.R_far (p := ⟨gb159, 1, none⟩) (Kd.R_far (p := ⟨gb159, 0, none⟩) (Kd.R_types HO163.out BK159.out (by decide)) (fun _ hk => hk.2) (.slice Ao6 t160.length co6)) (fun _ hk => hk.2) (.int .i64 t161)) (fun _ hk => trivial), by repeat (first | (with_reducible first | exact HB.out | apply below_alloc | apply pw_below_drewN | apply below_drew1 | refine below_set ?_ GE159.out) | exact HB.out)⟩

-- NOT PRINTED: function 45 (extent_Erase_1)

-- NOT PRINTED: function 44 (api_Piece_44)

end Go.Proofs.Ytfhjbhbmbnnimaa.PE
