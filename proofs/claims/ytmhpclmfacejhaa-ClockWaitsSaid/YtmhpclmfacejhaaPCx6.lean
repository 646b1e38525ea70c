/- Plain Lean functions with the answers of the Go functions that these laws reach, and proofs that the calls come to them; written by this session's program. -/
import Derived.Test.YtmhpclmfacejhaaPCx0
import Derived.Test.YtmhpclmfacejhaaPCx3
namespace Go.Proofs.Ytmhpclmfacejhaa.PC
open Go.RowKit Go.Proofs.YtmhpclmfacejhaaW.PrintWords Go.Proofs.YtmhpclmfacejhaaW.PrintLast Go.Proofs.YtmhpclmfacejhaaW.PrintMore
attribute [local go_sem] max2_int min2_int max_two min_two max_three min_three max_four min_four   -- for this text's walks alone
set_option linter.unusedVariables false
set_option linter.unusedSimpArgs false

/-! ### burgagelaw16_ClockOrder: function 5 -/
def burgagelaw16_ClockOrder.j0 : Nat → Bool → Int → Int → Int → Int → Bool → Option (Bool)
  | 0, _, _, _, _, _, _ => none
  | k + 1, x7, x8, x9, x11, x12, x47 => if x47 = true then (some false) else ((clock_Over.f x8 x9).bind fun t185 => (if t185 = true then ((clock_Over.f x8 x11).bind fun t186 => (if t186 = true then ((clock_Over.f x12 x9).bind fun t187 => (if t187 = true then ((clock_Over.f x8 x9).bind fun t188 => (if t188 = true then (some x7) else (some false))) else (some x7))) else (some false))) else ((clock_Over.f x12 x9).bind fun t189 => (if t189 = true then ((clock_Over.f x8 x9).bind fun t190 => (if t190 = true then (some x7) else (some false))) else (some x7)))))
def burgagelaw16_ClockOrder.f (k : Nat) (a0 : Int) (a1 : Int) (a2_0 : Int) (a2_1 : Int) : Option (Bool) := (burgagelaw16_sanity.f k).bind fun t179 => ((burgageref16_Time.f a0).bind fun t180 => ((burgageref16_Time.f a1).bind fun t181 => ((clock_Holds.f t180 t181).bind fun t182 => (if t182 = true then ((clock_Holds.f t180 (wrap64 (t181 - (wrap64 (a2_0))))).bind fun t183 => (if t183 = true then ((clock_Holds.f (wrap64 (t180 + (wrap64 (a2_1)))) t181).bind fun t184 => (burgagelaw16_ClockOrder.j0 k t179 t180 t181 (wrap64 (t181 + (wrap64 (a2_0)))) (wrap64 (t180 + (wrap64 (a2_1)))) (!t184))) else (burgagelaw16_ClockOrder.j0 k t179 t180 t181 (wrap64 (t181 + (wrap64 (a2_0)))) (wrap64 (t180 + (wrap64 (a2_1)))) true))) else (burgagelaw16_ClockOrder.j0 k t179 t180 t181 (wrap64 (t181 + (wrap64 (a2_0)))) (wrap64 (t180 + (wrap64 (a2_1)))) false)))))
theorem burgagelaw16_ClockOrder.mono_l : ∀ k, (∀ y0 y1 y2 y3 y4 y5, LeO (burgagelaw16_ClockOrder.j0 k y0 y1 y2 y3 y4 y5) (burgagelaw16_ClockOrder.j0 (k + 1) y0 y1 y2 y3 y4 y5))
  | 0 => fun _ _ _ _ _ _ r h => by simp [burgagelaw16_ClockOrder.j0] at h
  | k + 1 => by
    have ih0 := burgagelaw16_ClockOrder.mono_l k
    · intro y0 y1 y2 y3 y4 y5
      unfold burgagelaw16_ClockOrder.j0
      repeat' first
      | (with_reducible exact ih0 _ _ _ _ _ _)
      | (with_reducible exact burgagelaw16_sanity.mono _)
      | (with_reducible exact LeO.refl _)
      | (with_reducible exact LeO.none _)
      | (with_reducible refine LeO.ite ?_ ?_)
      | (with_reducible refine LeO.bind ?_ (fun _ => ?_))
      | exact ih0 _ _ _ _ _ _
      | exact burgagelaw16_sanity.mono _
      | exact LeO.none _
      | refine LeO.ite ?_ ?_
      | refine LeO.bind ?_ (fun _ => ?_)
theorem burgagelaw16_ClockOrder.mono : ∀ a0 a1 a2 a3 k, LeO (burgagelaw16_ClockOrder.f k a0 a1 a2 a3) (burgagelaw16_ClockOrder.f (k + 1) a0 a1 a2 a3) := by
  intro a0 a1 a2 a3 k
  have ih0 := burgagelaw16_ClockOrder.mono_l k
  unfold burgagelaw16_ClockOrder.f
  repeat' first
      | (with_reducible exact ih0 _ _ _ _ _ _)
      | (with_reducible exact burgagelaw16_sanity.mono _)
      | (with_reducible exact LeO.refl _)
      | (with_reducible exact LeO.none _)
      | (with_reducible refine LeO.ite ?_ ?_)
      | (with_reducible refine LeO.bind ?_ (fun _ => ?_))
      | exact ih0 _ _ _ _ _ _
      | exact burgagelaw16_sanity.mono _
      | exact LeO.none _
      | refine LeO.ite ?_ ?_
      | refine LeO.bind ?_ (fun _ => ?_)
set_option maxHeartbeats 8000000 in
set_option maxRecDepth 100000 in
theorem burgagelaw16_ClockOrder.calls (k : Nat) (a0 : Int) (a1 : Int) (a2_0 : Int) (a2_1 : Int) (r : Bool) (w : World) (hr : r = true) (h : burgagelaw16_ClockOrder.f k a0 a1 a2_0 a2_1 = some r) :
    Calls Try.prog 5 #[.int .i64 a0, .int .i64 a1, .agg #[.int .u8 a2_0, .int .u8 a2_1]] w fun e w' => e = .returned (.bool r) ∧ Below w.heap.size w w' := by
  have hu37 := Try.underlying37
  have HB := Aside0.mk (Below.refl w.heap.size w)
  have HLAW := Aside0.mk hr
  clear hr
  have H : ((burgagelaw16_sanity.f k).bind fun t179 => ((burgageref16_Time.f a0).bind fun t180 => ((burgageref16_Time.f a1).bind fun t181 => ((clock_Holds.f t180 t181).bind fun t182 => (if t182 = true then ((clock_Holds.f t180 (wrap64 (t181 - (wrap64 (a2_0))))).bind fun t183 => (if t183 = true then ((clock_Holds.f (wrap64 (t180 + (wrap64 (a2_1)))) t181).bind fun t184 => (burgagelaw16_ClockOrder.j0 k t179 t180 t181 (wrap64 (t181 + (wrap64 (a2_0)))) (wrap64 (t180 + (wrap64 (a2_1)))) (!t184))) else (burgagelaw16_ClockOrder.j0 k t179 t180 t181 (wrap64 (t181 + (wrap64 (a2_0)))) (wrap64 (t180 + (wrap64 (a2_1)))) true))) else (burgagelaw16_ClockOrder.j0 k t179 t180 t181 (wrap64 (t181 + (wrap64 (a2_0)))) (wrap64 (t180 + (wrap64 (a2_1)))) false)))))) = some r := h
  clear h
  replace H := Option.bind_eq_some_iff.mp H
  obtain ⟨t179, A40, H⟩ := H
  replace H : ((burgageref16_Time.f a0).bind fun t180 => ((burgageref16_Time.f a1).bind fun t181 => ((clock_Holds.f t180 t181).bind fun t182 => (if t182 = true then ((clock_Holds.f t180 (wrap64 (t181 - (wrap64 (a2_0))))).bind fun t183 => (if t183 = true then ((clock_Holds.f (wrap64 (t180 + (wrap64 (a2_1)))) t181).bind fun t184 => (burgagelaw16_ClockOrder.j0 k t179 t180 t181 (wrap64 (t181 + (wrap64 (a2_0)))) (wrap64 (t180 + (wrap64 (a2_1)))) (!t184))) else (burgagelaw16_ClockOrder.j0 k t179 t180 t181 (wrap64 (t181 + (wrap64 (a2_0)))) (wrap64 (t180 + (wrap64 (a2_1)))) true))) else (burgagelaw16_ClockOrder.j0 k t179 t180 t181 (wrap64 (t181 + (wrap64 (a2_0)))) (wrap64 (t180 + (wrap64 (a2_1)))) false))))) = some r := H
  have A4 := Aside0.mk A40
  clear A40
  replace H := Option.bind_eq_some_iff.mp H
  obtain ⟨t180, A50, H⟩ := H
  replace H : ((burgageref16_Time.f a1).bind fun t181 => ((clock_Holds.f t180 t181).bind fun t182 => (if t182 = true then ((clock_Holds.f t180 (wrap64 (t181 - (wrap64 (a2_0))))).bind fun t183 => (if t183 = true then ((clock_Holds.f (wrap64 (t180 + (wrap64 (a2_1)))) t181).bind fun t184 => (burgagelaw16_ClockOrder.j0 k t179 t180 t181 (wrap64 (t181 + (wrap64 (a2_0)))) (wrap64 (t180 + (wrap64 (a2_1)))) (!t184))) else (burgagelaw16_ClockOrder.j0 k t179 t180 t181 (wrap64 (t181 + (wrap64 (a2_0)))) (wrap64 (t180 + (wrap64 (a2_1)))) true))) else (burgagelaw16_ClockOrder.j0 k t179 t180 t181 (wrap64 (t181 + (wrap64 (a2_0)))) (wrap64 (t180 + (wrap64 (a2_1)))) false)))) = some r := H
  have A5 := Aside0.mk A50
  clear A50
  replace H := Option.bind_eq_some_iff.mp H
  obtain ⟨t181, A60, H⟩ := H
  replace H : ((clock_Holds.f t180 t181).bind fun t182 => (if t182 = true then ((clock_Holds.f t180 (wrap64 (t181 - (wrap64 (a2_0))))).bind fun t183 => (if t183 = true then ((clock_Holds.f (wrap64 (t180 + (wrap64 (a2_1)))) t181).bind fun t184 => (burgagelaw16_ClockOrder.j0 k t179 t180 t181 (wrap64 (t181 + (wrap64 (a2_0)))) (wrap64 (t180 + (wrap64 (a2_1)))) (!t184))) else (burgagelaw16_ClockOrder.j0 k t179 t180 t181 (wrap64 (t181 + (wrap64 (a2_0)))) (wrap64 (t180 + (wrap64 (a2_1)))) true))) else (burgagelaw16_ClockOrder.j0 k t179 t180 t181 (wrap64 (t181 + (wrap64 (a2_0)))) (wrap64 (t180 + (wrap64 (a2_1)))) false))) = some r := H
  have A6 := Aside0.mk A60
  clear A60
  have HC7 := Aside0.mk H
  clear H
  go_enter Try.func5, Try.ntmps5
  go_upto_region 4 with (first | ((with_reducible refine gate_dst (N := 5) rfl ?_); refine box_event ?hg (N := 5) ?hd (cs := #[.int .u8 a2_0, .int .u8 a2_1]) (t := 37) ?hr ?_; (case hd => rfl); (case hg => rfl); (case hr => first | (go_simp; done) | (go_simp; rfl)); intro gb178 hg w8 hbox hb; have n0_ := Aside0.mk (below_step (by repeat (first | (with_reducible first | exact HB.out | apply below_alloc | apply pw_below_drewN | apply below_drew1) | exact HB.out)) hb); have n1_ := Aside0.mk (hbox); have n2_ := Aside0.mk ((by rw [hg]; exact (below_size (by repeat (first | (with_reducible first | exact HB.out | apply below_alloc | apply pw_below_drewN | apply below_drew1) | exact HB.out))) : w.heap.size ≤ gb178)); have n3_ := Aside0.mk ((by rw [hg]; exact (below_size (by repeat (first | (with_reducible first | exact HB.out | apply below_alloc | apply pw_below_drewN | apply below_drew1) | exact HB.out))) : w.heap.size ≤ gb178)); clear HB; have HB := n0_; have BK178 := n1_; have GW178 := n2_; have GE178 := n3_; clear n0_ n1_ n2_ n3_; clear hb hbox hg) | (go_at_call 10; (with_reducible refine (burgagelaw16_sanity.calls k  t179 _ A4.out).mono ?_); rintro e w9 ⟨rfl, hb⟩; have n0_ := Aside0.mk (blk_below (g := gb178) (o := .cells #[.int .u8 a2_0, .int .u8 a2_1] 37 (0, 0)) (by (with_reducible repeat (first | refine blk_drewN ?_ _ | refine blk_drew ?_ | refine blk_alloc ?_ _)); exact BK178.out) hb); have n1_ := Aside0.mk (below_step (by repeat (first | (with_reducible first | exact HB.out | apply below_alloc | apply pw_below_drewN | apply below_drew1 | refine below_set ?_ GE178.out) | exact HB.out)) hb); clear BK178; clear HB; have BK178 := n0_; have HB := n1_; clear n0_ n1_; (try clear hb); (try clear hb2); (try clear hk); (try clear hi)) | (go_at_call 12; (with_reducible refine (burgageref16_Time.calls a0 t180 _ A5.out).mono ?_); rintro e w' ⟨rfl, ⟨nd, rfl⟩⟩; (try first | exact ⟨rfl, _, World.drewN_drewN _ _ _⟩ | exact ⟨rfl, _, Eq.trans (World.drewN_drewN _ _ _) (congrArg (World.drewN _) (Nat.add_assoc _ _ _))⟩)) | (go_at_call 12; (with_reducible refine (burgageref16_Time.calls a1 t181 _ A6.out).mono ?_); rintro e w' ⟨rfl, ⟨nd, rfl⟩⟩; (try first | exact ⟨rfl, _, World.drewN_drewN _ _ _⟩ | exact ⟨rfl, _, Eq.trans (World.drewN_drewN _ _ _) (congrArg (World.drewN _) (Nat.add_assoc _ _ _))⟩); have hcz10_0 : w9.cell? ⟨gb178, 0, none⟩ = some (.int .u8 a2_0) := (blk_cell BK178.out 0).trans rfl; have hcz10_1 : w9.cell? ⟨gb178, 1, none⟩ = some (.int .u8 a2_1) := (blk_cell BK178.out 1).trans rfl; have hfz10_0 := blk_frozen BK178.out 0; have hfz10_1 := blk_frozen BK178.out 1))
  repeat (go_quiet (first | ((with_reducible refine gate_dst (N := 5) rfl ?_); refine box_event ?hg (N := 5) ?hd (cs := #[.int .u8 a2_0, .int .u8 a2_1]) (t := 37) ?hr ?_; (case hd => rfl); (case hg => rfl); (case hr => first | (go_simp; done) | (go_simp; rfl)); intro gb178 hg w8 hbox hb; have n0_ := Aside0.mk (below_step (by repeat (first | (with_reducible first | exact HB.out | apply below_alloc | apply pw_below_drewN | apply below_drew1) | exact HB.out)) hb); have n1_ := Aside0.mk (hbox); have n2_ := Aside0.mk ((by rw [hg]; exact (below_size (by repeat (first | (with_reducible first | exact HB.out | apply below_alloc | apply pw_below_drewN | apply below_drew1) | exact HB.out))) : w.heap.size ≤ gb178)); have n3_ := Aside0.mk ((by rw [hg]; exact (below_size (by repeat (first | (with_reducible first | exact HB.out | apply below_alloc | apply pw_below_drewN | apply below_drew1) | exact HB.out))) : w.heap.size ≤ gb178)); clear HB; have HB := n0_; have BK178 := n1_; have GW178 := n2_; have GE178 := n3_; clear n0_ n1_ n2_ n3_; clear hb hbox hg) | (go_at_call 10; (with_reducible refine (burgagelaw16_sanity.calls k  t179 _ A4.out).mono ?_); rintro e w9 ⟨rfl, hb⟩; have n0_ := Aside0.mk (blk_below (g := gb178) (o := .cells #[.int .u8 a2_0, .int .u8 a2_1] 37 (0, 0)) (by (with_reducible repeat (first | refine blk_drewN ?_ _ | refine blk_drew ?_ | refine blk_alloc ?_ _)); exact BK178.out) hb); have n1_ := Aside0.mk (below_step (by repeat (first | (with_reducible first | exact HB.out | apply below_alloc | apply pw_below_drewN | apply below_drew1 | refine below_set ?_ GE178.out) | exact HB.out)) hb); clear BK178; clear HB; have BK178 := n0_; have HB := n1_; clear n0_ n1_; (try clear hb); (try clear hb2); (try clear hk); (try clear hi)) | (go_at_call 12; (with_reducible refine (burgageref16_Time.calls a0 t180 _ A5.out).mono ?_); rintro e w' ⟨rfl, ⟨nd, rfl⟩⟩; (try first | exact ⟨rfl, _, World.drewN_drewN _ _ _⟩ | exact ⟨rfl, _, Eq.trans (World.drewN_drewN _ _ _) (congrArg (World.drewN _) (Nat.add_assoc _ _ _))⟩)) | (go_at_call 12; (with_reducible refine (burgageref16_Time.calls a1 t181 _ A6.out).mono ?_); rintro e w' ⟨rfl, ⟨nd, rfl⟩⟩; (try first | exact ⟨rfl, _, World.drewN_drewN _ _ _⟩ | exact ⟨rfl, _, Eq.trans (World.drewN_drewN _ _ _) (congrArg (World.drewN _) (Nat.add_assoc _ _ _))⟩); have hcz10_0 : w9.cell? ⟨gb178, 0, none⟩ = some (.int .u8 a2_0) := (blk_cell BK178.out 0).trans rfl; have hcz10_1 : w9.cell? ⟨gb178, 1, none⟩ = some (.int .u8 a2_1) := (blk_cell BK178.out 1).trans rfl; have hfz10_0 := blk_frozen BK178.out 0; have hfz10_1 := blk_frozen BK178.out 1)); go_upto_region 4 with (first | ((with_reducible refine gate_dst (N := 5) rfl ?_); refine box_event ?hg (N := 5) ?hd (cs := #[.int .u8 a2_0, .int .u8 a2_1]) (t := 37) ?hr ?_; (case hd => rfl); (case hg => rfl); (case hr => first | (go_simp; done) | (go_simp; rfl)); intro gb178 hg w8 hbox hb; have n0_ := Aside0.mk (below_step (by repeat (first | (with_reducible first | exact HB.out | apply below_alloc | apply pw_below_drewN | apply below_drew1) | exact HB.out)) hb); have n1_ := Aside0.mk (hbox); have n2_ := Aside0.mk ((by rw [hg]; exact (below_size (by repeat (first | (with_reducible first | exact HB.out | apply below_alloc | apply pw_below_drewN | apply below_drew1) | exact HB.out))) : w.heap.size ≤ gb178)); have n3_ := Aside0.mk ((by rw [hg]; exact (below_size (by repeat (first | (with_reducible first | exact HB.out | apply below_alloc | apply pw_below_drewN | apply below_drew1) | exact HB.out))) : w.heap.size ≤ gb178)); clear HB; have HB := n0_; have BK178 := n1_; have GW178 := n2_; have GE178 := n3_; clear n0_ n1_ n2_ n3_; clear hb hbox hg) | (go_at_call 10; (with_reducible refine (burgagelaw16_sanity.calls k  t179 _ A4.out).mono ?_); rintro e w9 ⟨rfl, hb⟩; have n0_ := Aside0.mk (blk_below (g := gb178) (o := .cells #[.int .u8 a2_0, .int .u8 a2_1] 37 (0, 0)) (by (with_reducible repeat (first | refine blk_drewN ?_ _ | refine blk_drew ?_ | refine blk_alloc ?_ _)); exact BK178.out) hb); have n1_ := Aside0.mk (below_step (by repeat (first | (with_reducible first | exact HB.out | apply below_alloc | apply pw_below_drewN | apply below_drew1 | refine below_set ?_ GE178.out) | exact HB.out)) hb); clear BK178; clear HB; have BK178 := n0_; have HB := n1_; clear n0_ n1_; (try clear hb); (try clear hb2); (try clear hk); (try clear hi)) | (go_at_call 12; (with_reducible refine (burgageref16_Time.calls a0 t180 _ A5.out).mono ?_); rintro e w' ⟨rfl, ⟨nd, rfl⟩⟩; (try first | exact ⟨rfl, _, World.drewN_drewN _ _ _⟩ | exact ⟨rfl, _, Eq.trans (World.drewN_drewN _ _ _) (congrArg (World.drewN _) (Nat.add_assoc _ _ _))⟩)) | (go_at_call 12; (with_reducible refine (burgageref16_Time.calls a1 t181 _ A6.out).mono ?_); rintro e w' ⟨rfl, ⟨nd, rfl⟩⟩; (try first | exact ⟨rfl, _, World.drewN_drewN _ _ _⟩ | exact ⟨rfl, _, Eq.trans (World.drewN_drewN _ _ _) (congrArg (World.drewN _) (Nat.add_assoc _ _ _))⟩); have hcz10_0 : w9.cell? ⟨gb178, 0, none⟩ = some (.int .u8 a2_0) := (blk_cell BK178.out 0).trans rfl; have hcz10_1 : w9.cell? ⟨gb178, 1, none⟩ = some (.int .u8 a2_1) := (blk_cell BK178.out 1).trans rfl; have hfz10_0 := blk_frozen BK178.out 0; have hfz10_1 := blk_frozen BK178.out 1)))
  (try simp only [Act.put, List.setIfInBounds_toArray, List.set_cons_zero, List.set_cons_succ])
  go_cut [47] (fun v47 wc => ∃ (kq : Nat) (x47_6 : Bool), v47 = .bool x47_6 ∧ Aside0 (burgagelaw16_ClockOrder.j0 kq t179 t180 t181 (wrap64 (t181 + (wrap64 (a2_0)))) (wrap64 (t180 + (wrap64 (a2_1)))) x47_6 = some r) ∧ Aside0 (kq ≤ k) ∧ Aside0 (wc.heap[gb178]? = some (.cells #[.int .u8 a2_0, .int .u8 a2_1] 37 (0, 0))) ∧ Aside0 (Below w.heap.size w wc))
  case first =>
    have H := HC7.out
    clear HC7
    replace H := Option.bind_eq_some_iff.mp H
    obtain ⟨t182, A110, H⟩ := H
    replace H : (if t182 = true then ((clock_Holds.f t180 (wrap64 (t181 - (wrap64 (a2_0))))).bind fun t183 => (if t183 = true then ((clock_Holds.f (wrap64 (t180 + (wrap64 (a2_1)))) t181).bind fun t184 => (burgagelaw16_ClockOrder.j0 k t179 t180 t181 (wrap64 (t181 + (wrap64 (a2_0)))) (wrap64 (t180 + (wrap64 (a2_1)))) (!t184))) else (burgagelaw16_ClockOrder.j0 k t179 t180 t181 (wrap64 (t181 + (wrap64 (a2_0)))) (wrap64 (t180 + (wrap64 (a2_1)))) true))) else (burgagelaw16_ClockOrder.j0 k t179 t180 t181 (wrap64 (t181 + (wrap64 (a2_0)))) (wrap64 (t180 + (wrap64 (a2_1)))) false)) = some r := H
    have A11 := Aside0.mk A110
    clear A110
    by_cases c12 : t182 = true
    · subst c12
      have H1 : ((clock_Holds.f t180 (wrap64 (t181 - (wrap64 (a2_0))))).bind fun t183 => (if t183 = true then ((clock_Holds.f (wrap64 (t180 + (wrap64 (a2_1)))) t181).bind fun t184 => (burgagelaw16_ClockOrder.j0 k t179 t180 t181 (wrap64 (t181 + (wrap64 (a2_0)))) (wrap64 (t180 + (wrap64 (a2_1)))) (!t184))) else (burgagelaw16_ClockOrder.j0 k t179 t180 t181 (wrap64 (t181 + (wrap64 (a2_0)))) (wrap64 (t180 + (wrap64 (a2_1)))) true))) = some r := by rw [if_pos rfl] at H; exact H
      clear H
      have H := H1
      clear H1
      replace H := Option.bind_eq_some_iff.mp H
      obtain ⟨t183, A130, H⟩ := H
      replace H : (if t183 = true then ((clock_Holds.f (wrap64 (t180 + (wrap64 (a2_1)))) t181).bind fun t184 => (burgagelaw16_ClockOrder.j0 k t179 t180 t181 (wrap64 (t181 + (wrap64 (a2_0)))) (wrap64 (t180 + (wrap64 (a2_1)))) (!t184))) else (burgagelaw16_ClockOrder.j0 k t179 t180 t181 (wrap64 (t181 + (wrap64 (a2_0)))) (wrap64 (t180 + (wrap64 (a2_1)))) true)) = some r := H
      have A13 := Aside0.mk A130
      clear A130
      by_cases c14 : t183 = true
      · subst c14
        have H1 : ((clock_Holds.f (wrap64 (t180 + (wrap64 (a2_1)))) t181).bind fun t184 => (burgagelaw16_ClockOrder.j0 k t179 t180 t181 (wrap64 (t181 + (wrap64 (a2_0)))) (wrap64 (t180 + (wrap64 (a2_1)))) (!t184))) = some r := by rw [if_pos rfl] at H; exact H
        clear H
        have H := H1
        clear H1
        replace H := Option.bind_eq_some_iff.mp H
        obtain ⟨t184, A150, H⟩ := H
        replace H : (burgagelaw16_ClockOrder.j0 k t179 t180 t181 (wrap64 (t181 + (wrap64 (a2_0)))) (wrap64 (t180 + (wrap64 (a2_1)))) (!t184)) = some r := H
        have A15 := Aside0.mk A150
        clear A150
        have H' := Aside0.mk H
        clear H
        go_wp2_with (first | (go_at_call 16; (with_reducible refine (clock_Holds.calls t180 t181 true _ A11.out).mono ?_); rintro e w' ⟨rfl, ⟨nd, rfl⟩⟩; (try first | exact ⟨rfl, _, World.drewN_drewN _ _ _⟩ | exact ⟨rfl, _, Eq.trans (World.drewN_drewN _ _ _) (congrArg (World.drewN _) (Nat.add_assoc _ _ _))⟩)) | (go_at_call 16; (with_reducible refine (clock_Holds.calls t180 (wrap64 (t181 - (wrap64 (a2_0)))) true _ A13.out).mono ?_); rintro e w' ⟨rfl, ⟨nd, rfl⟩⟩; (try first | exact ⟨rfl, _, World.drewN_drewN _ _ _⟩ | exact ⟨rfl, _, Eq.trans (World.drewN_drewN _ _ _) (congrArg (World.drewN _) (Nat.add_assoc _ _ _))⟩)) | (go_at_call 16; (with_reducible refine (clock_Holds.calls (wrap64 (t180 + (wrap64 (a2_1)))) t181 t184 _ A15.out).mono ?_); rintro e w' ⟨rfl, ⟨nd, rfl⟩⟩; (try first | exact ⟨rfl, _, World.drewN_drewN _ _ _⟩ | exact ⟨rfl, _, Eq.trans (World.drewN_drewN _ _ _) (congrArg (World.drewN _) (Nat.add_assoc _ _ _))⟩)))
        repeat (go_quiet (first | (go_at_call 16; (with_reducible refine (clock_Holds.calls t180 t181 true _ A11.out).mono ?_); rintro e w' ⟨rfl, ⟨nd, rfl⟩⟩; (try first | exact ⟨rfl, _, World.drewN_drewN _ _ _⟩ | exact ⟨rfl, _, Eq.trans (World.drewN_drewN _ _ _) (congrArg (World.drewN _) (Nat.add_assoc _ _ _))⟩)) | (go_at_call 16; (with_reducible refine (clock_Holds.calls t180 (wrap64 (t181 - (wrap64 (a2_0)))) true _ A13.out).mono ?_); rintro e w' ⟨rfl, ⟨nd, rfl⟩⟩; (try first | exact ⟨rfl, _, World.drewN_drewN _ _ _⟩ | exact ⟨rfl, _, Eq.trans (World.drewN_drewN _ _ _) (congrArg (World.drewN _) (Nat.add_assoc _ _ _))⟩)) | (go_at_call 16; (with_reducible refine (clock_Holds.calls (wrap64 (t180 + (wrap64 (a2_1)))) t181 t184 _ A15.out).mono ?_); rintro e w' ⟨rfl, ⟨nd, rfl⟩⟩; (try first | exact ⟨rfl, _, World.drewN_drewN _ _ _⟩ | exact ⟨rfl, _, Eq.trans (World.drewN_drewN _ _ _) (congrArg (World.drewN _) (Nat.add_assoc _ _ _))⟩))); try go_wp2_with (first | (go_at_call 16; (with_reducible refine (clock_Holds.calls t180 t181 true _ A11.out).mono ?_); rintro e w' ⟨rfl, ⟨nd, rfl⟩⟩; (try first | exact ⟨rfl, _, World.drewN_drewN _ _ _⟩ | exact ⟨rfl, _, Eq.trans (World.drewN_drewN _ _ _) (congrArg (World.drewN _) (Nat.add_assoc _ _ _))⟩)) | (go_at_call 16; (with_reducible refine (clock_Holds.calls t180 (wrap64 (t181 - (wrap64 (a2_0)))) true _ A13.out).mono ?_); rintro e w' ⟨rfl, ⟨nd, rfl⟩⟩; (try first | exact ⟨rfl, _, World.drewN_drewN _ _ _⟩ | exact ⟨rfl, _, Eq.trans (World.drewN_drewN _ _ _) (congrArg (World.drewN _) (Nat.add_assoc _ _ _))⟩)) | (go_at_call 16; (with_reducible refine (clock_Holds.calls (wrap64 (t180 + (wrap64 (a2_1)))) t181 t184 _ A15.out).mono ?_); rintro e w' ⟨rfl, ⟨nd, rfl⟩⟩; (try first | exact ⟨rfl, _, World.drewN_drewN _ _ _⟩ | exact ⟨rfl, _, Eq.trans (World.drewN_drewN _ _ _) (congrArg (World.drewN _) (Nat.add_assoc _ _ _))⟩))))
        go_meet
        case rel => exact ⟨_, (!t184), (by first | rfl | (simp; done) | (simp [*]; done)), H', ⟨by first | omega | exact Nat.le_refl _⟩, ⟨by (with_reducible repeat (first | refine blk_drewN ?_ _ | refine blk_drew ?_ | refine blk_alloc ?_ _)); exact BK178.out⟩, ⟨by repeat (first | (with_reducible first | exact HB.out | apply below_alloc | apply pw_below_drewN | apply below_drew1 | refine below_set ?_ GE178.out) | exact HB.out)⟩⟩
      · replace c14 := Bool.eq_false_iff.mpr c14
        subst c14
        have H1 : (burgagelaw16_ClockOrder.j0 k t179 t180 t181 (wrap64 (t181 + (wrap64 (a2_0)))) (wrap64 (t180 + (wrap64 (a2_1)))) true) = some r := by rw [if_neg (show ¬ (false = true) by decide)] at H; exact H
        clear H
        have H := H1
        clear H1
        have H' := Aside0.mk H
        clear H
        go_wp2_with (first | (go_at_call 16; (with_reducible refine (clock_Holds.calls t180 t181 true _ A11.out).mono ?_); rintro e w' ⟨rfl, ⟨nd, rfl⟩⟩; (try first | exact ⟨rfl, _, World.drewN_drewN _ _ _⟩ | exact ⟨rfl, _, Eq.trans (World.drewN_drewN _ _ _) (congrArg (World.drewN _) (Nat.add_assoc _ _ _))⟩)) | (go_at_call 16; (with_reducible refine (clock_Holds.calls t180 (wrap64 (t181 - (wrap64 (a2_0)))) false _ A13.out).mono ?_); rintro e w' ⟨rfl, ⟨nd, rfl⟩⟩; (try first | exact ⟨rfl, _, World.drewN_drewN _ _ _⟩ | exact ⟨rfl, _, Eq.trans (World.drewN_drewN _ _ _) (congrArg (World.drewN _) (Nat.add_assoc _ _ _))⟩)))
        repeat (go_quiet (first | (go_at_call 16; (with_reducible refine (clock_Holds.calls t180 t181 true _ A11.out).mono ?_); rintro e w' ⟨rfl, ⟨nd, rfl⟩⟩; (try first | exact ⟨rfl, _, World.drewN_drewN _ _ _⟩ | exact ⟨rfl, _, Eq.trans (World.drewN_drewN _ _ _) (congrArg (World.drewN _) (Nat.add_assoc _ _ _))⟩)) | (go_at_call 16; (with_reducible refine (clock_Holds.calls t180 (wrap64 (t181 - (wrap64 (a2_0)))) false _ A13.out).mono ?_); rintro e w' ⟨rfl, ⟨nd, rfl⟩⟩; (try first | exact ⟨rfl, _, World.drewN_drewN _ _ _⟩ | exact ⟨rfl, _, Eq.trans (World.drewN_drewN _ _ _) (congrArg (World.drewN _) (Nat.add_assoc _ _ _))⟩))); try go_wp2_with (first | (go_at_call 16; (with_reducible refine (clock_Holds.calls t180 t181 true _ A11.out).mono ?_); rintro e w' ⟨rfl, ⟨nd, rfl⟩⟩; (try first | exact ⟨rfl, _, World.drewN_drewN _ _ _⟩ | exact ⟨rfl, _, Eq.trans (World.drewN_drewN _ _ _) (congrArg (World.drewN _) (Nat.add_assoc _ _ _))⟩)) | (go_at_call 16; (with_reducible refine (clock_Holds.calls t180 (wrap64 (t181 - (wrap64 (a2_0)))) false _ A13.out).mono ?_); rintro e w' ⟨rfl, ⟨nd, rfl⟩⟩; (try first | exact ⟨rfl, _, World.drewN_drewN _ _ _⟩ | exact ⟨rfl, _, Eq.trans (World.drewN_drewN _ _ _) (congrArg (World.drewN _) (Nat.add_assoc _ _ _))⟩))))
        go_meet
        case rel => exact ⟨_, (true), (by first | rfl | (simp; done) | (simp [*]; done)), H', ⟨by first | omega | exact Nat.le_refl _⟩, ⟨by (with_reducible repeat (first | refine blk_drewN ?_ _ | refine blk_drew ?_ | refine blk_alloc ?_ _)); exact BK178.out⟩, ⟨by repeat (first | (with_reducible first | exact HB.out | apply below_alloc | apply pw_below_drewN | apply below_drew1 | refine below_set ?_ GE178.out) | exact HB.out)⟩⟩
    · replace c12 := Bool.eq_false_iff.mpr c12
      subst c12
      have H1 : (burgagelaw16_ClockOrder.j0 k t179 t180 t181 (wrap64 (t181 + (wrap64 (a2_0)))) (wrap64 (t180 + (wrap64 (a2_1)))) false) = some r := by rw [if_neg (show ¬ (false = true) by decide)] at H; exact H
      clear H
      have H := H1
      clear H1
      have H' := Aside0.mk H
      clear H
      go_wp2_with (first | (go_at_call 16; (with_reducible refine (clock_Holds.calls t180 t181 false _ A11.out).mono ?_); rintro e w' ⟨rfl, ⟨nd, rfl⟩⟩; (try first | exact ⟨rfl, _, World.drewN_drewN _ _ _⟩ | exact ⟨rfl, _, Eq.trans (World.drewN_drewN _ _ _) (congrArg (World.drewN _) (Nat.add_assoc _ _ _))⟩)))
      repeat (go_quiet (first | (go_at_call 16; (with_reducible refine (clock_Holds.calls t180 t181 false _ A11.out).mono ?_); rintro e w' ⟨rfl, ⟨nd, rfl⟩⟩; (try first | exact ⟨rfl, _, World.drewN_drewN _ _ _⟩ | exact ⟨rfl, _, Eq.trans (World.drewN_drewN _ _ _) (congrArg (World.drewN _) (Nat.add_assoc _ _ _))⟩))); try go_wp2_with (first | (go_at_call 16; (with_reducible refine (clock_Holds.calls t180 t181 false _ A11.out).mono ?_); rintro e w' ⟨rfl, ⟨nd, rfl⟩⟩; (try first | exact ⟨rfl, _, World.drewN_drewN _ _ _⟩ | exact ⟨rfl, _, Eq.trans (World.drewN_drewN _ _ _) (congrArg (World.drewN _) (Nat.add_assoc _ _ _))⟩))))
      go_meet
      case rel => exact ⟨_, (false), (by first | rfl | (simp; done) | (simp [*]; done)), H', ⟨by first | omega | exact Nat.le_refl _⟩, ⟨by (with_reducible repeat (first | refine blk_drewN ?_ _ | refine blk_drew ?_ | refine blk_alloc ?_ _)); exact BK178.out⟩, ⟨by repeat (first | (with_reducible first | exact HB.out | apply below_alloc | apply pw_below_drewN | apply below_drew1 | refine below_set ?_ GE178.out) | exact HB.out)⟩⟩
  case rest =>
    clear HC7
    try clear c1
    try clear p2
    try clear c5
    try clear p6
    try clear c12
    try clear c14
    try clear hcz10_0
    try clear hcz10_1
    try clear hfz10_0
    try clear hfz10_1
    obtain ⟨kq, x47_6, rfl, HA, HJ6, BK178, HB⟩ := hcut
    cases kq with
    | zero => exact absurd HA.out (by simp [burgagelaw16_ClockOrder.j0])
    | succ kj6 =>
      have H := HA.out
      clear HA
      simp only [burgagelaw16_ClockOrder.j0] at H
      by_cases c16 : x47_6 = true
      · subst c16
        have H1 : (some false) = some r := by rw [if_pos rfl] at H; exact H
        clear H
        have H := H1
        clear H1
        exact absurd ((Option.some.inj H).trans HLAW.out) (by decide)
      · replace c16 := Bool.eq_false_iff.mpr c16
        subst c16
        have H1 : ((clock_Over.f t180 t181).bind fun t185 => (if t185 = true then ((clock_Over.f t180 (wrap64 (t181 + (wrap64 (a2_0))))).bind fun t186 => (if t186 = true then ((clock_Over.f (wrap64 (t180 + (wrap64 (a2_1)))) t181).bind fun t187 => (if t187 = true then ((clock_Over.f t180 t181).bind fun t188 => (if t188 = true then (some t179) else (some false))) else (some t179))) else (some false))) else ((clock_Over.f (wrap64 (t180 + (wrap64 (a2_1)))) t181).bind fun t189 => (if t189 = true then ((clock_Over.f t180 t181).bind fun t190 => (if t190 = true then (some t179) else (some false))) else (some t179))))) = some r := by rw [if_neg (show ¬ (false = true) by decide)] at H; exact H
        clear H
        have H := H1
        clear H1
        replace H := Option.bind_eq_some_iff.mp H
        obtain ⟨t185, A170, H⟩ := H
        replace H : (if t185 = true then ((clock_Over.f t180 (wrap64 (t181 + (wrap64 (a2_0))))).bind fun t186 => (if t186 = true then ((clock_Over.f (wrap64 (t180 + (wrap64 (a2_1)))) t181).bind fun t187 => (if t187 = true then ((clock_Over.f t180 t181).bind fun t188 => (if t188 = true then (some t179) else (some false))) else (some t179))) else (some false))) else ((clock_Over.f (wrap64 (t180 + (wrap64 (a2_1)))) t181).bind fun t189 => (if t189 = true then ((clock_Over.f t180 t181).bind fun t190 => (if t190 = true then (some t179) else (some false))) else (some t179)))) = some r := H
        have A17 := Aside0.mk A170
        clear A170
        by_cases c18 : t185 = true
        · subst c18
          have H1 : ((clock_Over.f t180 (wrap64 (t181 + (wrap64 (a2_0))))).bind fun t186 => (if t186 = true then ((clock_Over.f (wrap64 (t180 + (wrap64 (a2_1)))) t181).bind fun t187 => (if t187 = true then ((clock_Over.f t180 t181).bind fun t188 => (if t188 = true then (some t179) else (some false))) else (some t179))) else (some false))) = some r := by rw [if_pos rfl] at H; exact H
          clear H
          have H := H1
          clear H1
          replace H := Option.bind_eq_some_iff.mp H
          obtain ⟨t186, A190, H⟩ := H
          replace H : (if t186 = true then ((clock_Over.f (wrap64 (t180 + (wrap64 (a2_1)))) t181).bind fun t187 => (if t187 = true then ((clock_Over.f t180 t181).bind fun t188 => (if t188 = true then (some t179) else (some false))) else (some t179))) else (some false)) = some r := H
          have A19 := Aside0.mk A190
          clear A190
          by_cases c20 : t186 = true
          · subst c20
            have H1 : ((clock_Over.f (wrap64 (t180 + (wrap64 (a2_1)))) t181).bind fun t187 => (if t187 = true then ((clock_Over.f t180 t181).bind fun t188 => (if t188 = true then (some t179) else (some false))) else (some t179))) = some r := by rw [if_pos rfl] at H; exact H
            clear H
            have H := H1
            clear H1
            replace H := Option.bind_eq_some_iff.mp H
            obtain ⟨t187, A210, H⟩ := H
            replace H : (if t187 = true then ((clock_Over.f t180 t181).bind fun t188 => (if t188 = true then (some t179) else (some false))) else (some t179)) = some r := H
            have A21 := Aside0.mk A210
            clear A210
            by_cases c22 : t187 = true
            · subst c22
              have H1 : ((clock_Over.f t180 t181).bind fun t188 => (if t188 = true then (some t179) else (some false))) = some r := by rw [if_pos rfl] at H; exact H
              clear H
              have H := H1
              clear H1
              replace H := Option.bind_eq_some_iff.mp H
              obtain ⟨t188, A230, H⟩ := H
              replace H : (if t188 = true then (some t179) else (some false)) = some r := H
              have A23 := Aside0.mk A230
              clear A230
              by_cases c24 : t188 = true
              · subst c24
                have H1 : (some t179) = some r := by rw [if_pos rfl] at H; exact H
                clear H
                have H := H1
                clear H1
                clear HLAW
                obtain rfl := Option.some.inj H
                go_wp2_with (first | (go_at_call 18; (with_reducible refine (clock_Over.calls t180 t181 true _ A17.out).mono ?_); rintro e w' ⟨rfl, ⟨nd, rfl⟩⟩; (try first | exact ⟨rfl, _, World.drewN_drewN _ _ _⟩ | exact ⟨rfl, _, Eq.trans (World.drewN_drewN _ _ _) (congrArg (World.drewN _) (Nat.add_assoc _ _ _))⟩)) | (go_at_call 18; (with_reducible refine (clock_Over.calls t180 (wrap64 (t181 + (wrap64 (a2_0)))) true _ A19.out).mono ?_); rintro e w' ⟨rfl, ⟨nd, rfl⟩⟩; (try first | exact ⟨rfl, _, World.drewN_drewN _ _ _⟩ | exact ⟨rfl, _, Eq.trans (World.drewN_drewN _ _ _) (congrArg (World.drewN _) (Nat.add_assoc _ _ _))⟩)) | (go_at_call 18; (with_reducible refine (clock_Over.calls (wrap64 (t180 + (wrap64 (a2_1)))) t181 true _ A21.out).mono ?_); rintro e w' ⟨rfl, ⟨nd, rfl⟩⟩; (try first | exact ⟨rfl, _, World.drewN_drewN _ _ _⟩ | exact ⟨rfl, _, Eq.trans (World.drewN_drewN _ _ _) (congrArg (World.drewN _) (Nat.add_assoc _ _ _))⟩)) | (go_at_call 18; (with_reducible refine (clock_Over.calls t180 t181 true _ A23.out).mono ?_); rintro e w' ⟨rfl, ⟨nd, rfl⟩⟩; (try first | exact ⟨rfl, _, World.drewN_drewN _ _ _⟩ | exact ⟨rfl, _, Eq.trans (World.drewN_drewN _ _ _) (congrArg (World.drewN _) (Nat.add_assoc _ _ _))⟩)))
                repeat (go_quiet (first | (go_at_call 18; (with_reducible refine (clock_Over.calls t180 t181 true _ A17.out).mono ?_); rintro e w' ⟨rfl, ⟨nd, rfl⟩⟩; (try first | exact ⟨rfl, _, World.drewN_drewN _ _ _⟩ | exact ⟨rfl, _, Eq.trans (World.drewN_drewN _ _ _) (congrArg (World.drewN _) (Nat.add_assoc _ _ _))⟩)) | (go_at_call 18; (with_reducible refine (clock_Over.calls t180 (wrap64 (t181 + (wrap64 (a2_0)))) true _ A19.out).mono ?_); rintro e w' ⟨rfl, ⟨nd, rfl⟩⟩; (try first | exact ⟨rfl, _, World.drewN_drewN _ _ _⟩ | exact ⟨rfl, _, Eq.trans (World.drewN_drewN _ _ _) (congrArg (World.drewN _) (Nat.add_assoc _ _ _))⟩)) | (go_at_call 18; (with_reducible refine (clock_Over.calls (wrap64 (t180 + (wrap64 (a2_1)))) t181 true _ A21.out).mono ?_); rintro e w' ⟨rfl, ⟨nd, rfl⟩⟩; (try first | exact ⟨rfl, _, World.drewN_drewN _ _ _⟩ | exact ⟨rfl, _, Eq.trans (World.drewN_drewN _ _ _) (congrArg (World.drewN _) (Nat.add_assoc _ _ _))⟩)) | (go_at_call 18; (with_reducible refine (clock_Over.calls t180 t181 true _ A23.out).mono ?_); rintro e w' ⟨rfl, ⟨nd, rfl⟩⟩; (try first | exact ⟨rfl, _, World.drewN_drewN _ _ _⟩ | exact ⟨rfl, _, Eq.trans (World.drewN_drewN _ _ _) (congrArg (World.drewN _) (Nat.add_assoc _ _ _))⟩))); try go_wp2_with (first | (go_at_call 18; (with_reducible refine (clock_Over.calls t180 t181 true _ A17.out).mono ?_); rintro e w' ⟨rfl, ⟨nd, rfl⟩⟩; (try first | exact ⟨rfl, _, World.drewN_drewN _ _ _⟩ | exact ⟨rfl, _, Eq.trans (World.drewN_drewN _ _ _) (congrArg (World.drewN _) (Nat.add_assoc _ _ _))⟩)) | (go_at_call 18; (with_reducible refine (clock_Over.calls t180 (wrap64 (t181 + (wrap64 (a2_0)))) true _ A19.out).mono ?_); rintro e w' ⟨rfl, ⟨nd, rfl⟩⟩; (try first | exact ⟨rfl, _, World.drewN_drewN _ _ _⟩ | exact ⟨rfl, _, Eq.trans (World.drewN_drewN _ _ _) (congrArg (World.drewN _) (Nat.add_assoc _ _ _))⟩)) | (go_at_call 18; (with_reducible refine (clock_Over.calls (wrap64 (t180 + (wrap64 (a2_1)))) t181 true _ A21.out).mono ?_); rintro e w' ⟨rfl, ⟨nd, rfl⟩⟩; (try first | exact ⟨rfl, _, World.drewN_drewN _ _ _⟩ | exact ⟨rfl, _, Eq.trans (World.drewN_drewN _ _ _) (congrArg (World.drewN _) (Nat.add_assoc _ _ _))⟩)) | (go_at_call 18; (with_reducible refine (clock_Over.calls t180 t181 true _ A23.out).mono ?_); rintro e w' ⟨rfl, ⟨nd, rfl⟩⟩; (try first | exact ⟨rfl, _, World.drewN_drewN _ _ _⟩ | exact ⟨rfl, _, Eq.trans (World.drewN_drewN _ _ _) (congrArg (World.drewN _) (Nat.add_assoc _ _ _))⟩))))
                go_ret
                exact ⟨by first | rfl | (simp [errW_none, errW_some] <;> rfl) | (simp [*, errW_none, errW_some] <;> rfl) | (exfalso; simp_all only [aside0_iff, Option.some.injEq, reduceCtorEq]), by repeat (first | (with_reducible first | exact HB.out | apply below_alloc | apply pw_below_drewN | apply below_drew1 | refine below_set ?_ GE178.out) | exact HB.out)⟩
              · replace c24 := Bool.eq_false_iff.mpr c24
                subst c24
                have H1 : (some false) = some r := by rw [if_neg (show ¬ (false = true) by decide)] at H; exact H
                clear H
                have H := H1
                clear H1
                exact absurd ((Option.some.inj H).trans HLAW.out) (by decide)
            · replace c22 := Bool.eq_false_iff.mpr c22
              subst c22
              have H1 : (some t179) = some r := by rw [if_neg (show ¬ (false = true) by decide)] at H; exact H
              clear H
              have H := H1
              clear H1
              clear HLAW
              obtain rfl := Option.some.inj H
              go_wp2_with (first | (go_at_call 18; (with_reducible refine (clock_Over.calls t180 t181 true _ A17.out).mono ?_); rintro e w' ⟨rfl, ⟨nd, rfl⟩⟩; (try first | exact ⟨rfl, _, World.drewN_drewN _ _ _⟩ | exact ⟨rfl, _, Eq.trans (World.drewN_drewN _ _ _) (congrArg (World.drewN _) (Nat.add_assoc _ _ _))⟩)) | (go_at_call 18; (with_reducible refine (clock_Over.calls t180 (wrap64 (t181 + (wrap64 (a2_0)))) true _ A19.out).mono ?_); rintro e w' ⟨rfl, ⟨nd, rfl⟩⟩; (try first | exact ⟨rfl, _, World.drewN_drewN _ _ _⟩ | exact ⟨rfl, _, Eq.trans (World.drewN_drewN _ _ _) (congrArg (World.drewN _) (Nat.add_assoc _ _ _))⟩)) | (go_at_call 18; (with_reducible refine (clock_Over.calls (wrap64 (t180 + (wrap64 (a2_1)))) t181 false _ A21.out).mono ?_); rintro e w' ⟨rfl, ⟨nd, rfl⟩⟩; (try first | exact ⟨rfl, _, World.drewN_drewN _ _ _⟩ | exact ⟨rfl, _, Eq.trans (World.drewN_drewN _ _ _) (congrArg (World.drewN _) (Nat.add_assoc _ _ _))⟩)))
              repeat (go_quiet (first | (go_at_call 18; (with_reducible refine (clock_Over.calls t180 t181 true _ A17.out).mono ?_); rintro e w' ⟨rfl, ⟨nd, rfl⟩⟩; (try first | exact ⟨rfl, _, World.drewN_drewN _ _ _⟩ | exact ⟨rfl, _, Eq.trans (World.drewN_drewN _ _ _) (congrArg (World.drewN _) (Nat.add_assoc _ _ _))⟩)) | (go_at_call 18; (with_reducible refine (clock_Over.calls t180 (wrap64 (t181 + (wrap64 (a2_0)))) true _ A19.out).mono ?_); rintro e w' ⟨rfl, ⟨nd, rfl⟩⟩; (try first | exact ⟨rfl, _, World.drewN_drewN _ _ _⟩ | exact ⟨rfl, _, Eq.trans (World.drewN_drewN _ _ _) (congrArg (World.drewN _) (Nat.add_assoc _ _ _))⟩)) | (go_at_call 18; (with_reducible refine (clock_Over.calls (wrap64 (t180 + (wrap64 (a2_1)))) t181 false _ A21.out).mono ?_); rintro e w' ⟨rfl, ⟨nd, rfl⟩⟩; (try first | exact ⟨rfl, _, World.drewN_drewN _ _ _⟩ | exact ⟨rfl, _, Eq.trans (World.drewN_drewN _ _ _) (congrArg (World.drewN _) (Nat.add_assoc _ _ _))⟩))); try go_wp2_with (first | (go_at_call 18; (with_reducible refine (clock_Over.calls t180 t181 true _ A17.out).mono ?_); rintro e w' ⟨rfl, ⟨nd, rfl⟩⟩; (try first | exact ⟨rfl, _, World.drewN_drewN _ _ _⟩ | exact ⟨rfl, _, Eq.trans (World.drewN_drewN _ _ _) (congrArg (World.drewN _) (Nat.add_assoc _ _ _))⟩)) | (go_at_call 18; (with_reducible refine (clock_Over.calls t180 (wrap64 (t181 + (wrap64 (a2_0)))) true _ A19.out).mono ?_); rintro e w' ⟨rfl, ⟨nd, rfl⟩⟩; (try first | exact ⟨rfl, _, World.drewN_drewN _ _ _⟩ | exact ⟨rfl, _, Eq.trans (World.drewN_drewN _ _ _) (congrArg (World.drewN _) (Nat.add_assoc _ _ _))⟩)) | (go_at_call 18; (with_reducible refine (clock_Over.calls (wrap64 (t180 + (wrap64 (a2_1)))) t181 false _ A21.out).mono ?_); rintro e w' ⟨rfl, ⟨nd, rfl⟩⟩; (try first | exact ⟨rfl, _, World.drewN_drewN _ _ _⟩ | exact ⟨rfl, _, Eq.trans (World.drewN_drewN _ _ _) (congrArg (World.drewN _) (Nat.add_assoc _ _ _))⟩))))
              go_ret
              exact ⟨by first | rfl | (simp [errW_none, errW_some] <;> rfl) | (simp [*, errW_none, errW_some] <;> rfl) | (exfalso; simp_all only [aside0_iff, Option.some.injEq, reduceCtorEq]), by repeat (first | (with_reducible first | exact HB.out | apply below_alloc | apply pw_below_drewN | apply below_drew1 | refine below_set ?_ GE178.out) | exact HB.out)⟩
          · replace c20 := Bool.eq_false_iff.mpr c20
            subst c20
            have H1 : (some false) = some r := by rw [if_neg (show ¬ (false = true) by decide)] at H; exact H
            clear H
            have H := H1
            clear H1
            exact absurd ((Option.some.inj H).trans HLAW.out) (by decide)
        · replace c18 := Bool.eq_false_iff.mpr c18
          subst c18
          have H1 : ((clock_Over.f (wrap64 (t180 + (wrap64 (a2_1)))) t181).bind fun t189 => (if t189 = true then ((clock_Over.f t180 t181).bind fun t190 => (if t190 = true then (some t179) else (some false))) else (some t179))) = some r := by rw [if_neg (show ¬ (false = true) by decide)] at H; exact H
          clear H
          have H := H1
          clear H1
          replace H := Option.bind_eq_some_iff.mp H
          obtain ⟨t189, A250, H⟩ := H
          replace H : (if t189 = true then ((clock_Over.f t180 t181).bind fun t190 => (if t190 = true then (some t179) else (some false))) else (some t179)) = some r := H
          have A25 := Aside0.mk A250
          clear A250
          by_cases c26 : t189 = true
          · subst c26
            have H1 : ((clock_Over.f t180 t181).bind fun t190 => (if t190 = true then (some t179) else (some false))) = some r := by rw [if_pos rfl] at H; exact H
            clear H
            have H := H1
            clear H1
            replace H := Option.bind_eq_some_iff.mp H
            obtain ⟨t190, A270, H⟩ := H
            replace H : (if t190 = true then (some t179) else (some false)) = some r := H
            have A27 := Aside0.mk A270
            clear A270
            by_cases c28 : t190 = true
            · subst c28
              have H1 : (some t179) = some r := by rw [if_pos rfl] at H; exact H
              clear H
              have H := H1
              clear H1
              clear HLAW
              obtain rfl := Option.some.inj H
              go_wp2_with (first | (go_at_call 18; (with_reducible refine (clock_Over.calls t180 t181 false _ A17.out).mono ?_); rintro e w' ⟨rfl, ⟨nd, rfl⟩⟩; (try first | exact ⟨rfl, _, World.drewN_drewN _ _ _⟩ | exact ⟨rfl, _, Eq.trans (World.drewN_drewN _ _ _) (congrArg (World.drewN _) (Nat.add_assoc _ _ _))⟩)) | (go_at_call 18; (with_reducible refine (clock_Over.calls (wrap64 (t180 + (wrap64 (a2_1)))) t181 true _ A25.out).mono ?_); rintro e w' ⟨rfl, ⟨nd, rfl⟩⟩; (try first | exact ⟨rfl, _, World.drewN_drewN _ _ _⟩ | exact ⟨rfl, _, Eq.trans (World.drewN_drewN _ _ _) (congrArg (World.drewN _) (Nat.add_assoc _ _ _))⟩)) | (go_at_call 18; (with_reducible refine (clock_Over.calls t180 t181 true _ A27.out).mono ?_); rintro e w' ⟨rfl, ⟨nd, rfl⟩⟩; (try first | exact ⟨rfl, _, World.drewN_drewN _ _ _⟩ | exact ⟨rfl, _, Eq.trans (World.drewN_drewN _ _ _) (congrArg (World.drewN _) (Nat.add_assoc _ _ _))⟩)))
              repeat (go_quiet (first | (go_at_call 18; (with_reducible refine (clock_Over.calls t180 t181 false _ A17.out).mono ?_); rintro e w' ⟨rfl, ⟨nd, rfl⟩⟩; (try first | exact ⟨rfl, _, World.drewN_drewN _ _ _⟩ | exact ⟨rfl, _, Eq.trans (World.drewN_drewN _ _ _) (congrArg (World.drewN _) (Nat.add_assoc _ _ _))⟩)) | (go_at_call 18; (with_reducible refine (clock_Over.calls (wrap64 (t180 + (wrap64 (a2_1)))) t181 true _ A25.out).mono ?_); rintro e w' ⟨rfl, ⟨nd, rfl⟩⟩; (try first | exact ⟨rfl, _, World.drewN_drewN _ _ _⟩ | exact ⟨rfl, _, Eq.trans (World.drewN_drewN _ _ _) (congrArg (World.drewN _) (Nat.add_assoc _ _ _))⟩)) | (go_at_call 18; (with_reducible refine (clock_Over.calls t180 t181 true _ A27.out).mono ?_); rintro e w' ⟨rfl, ⟨nd, rfl⟩⟩; (try first | exact ⟨rfl, _, World.drewN_drewN _ _ _⟩ | exact ⟨rfl, _, Eq.trans (World.drewN_drewN _ _ _) (congrArg (World.drewN _) (Nat.add_assoc _ _ _))⟩))); try go_wp2_with (first | (go_at_call 18; (with_reducible refine (clock_Over.calls t180 t181 false _ A17.out).mono ?_); rintro e w' ⟨rfl, ⟨nd, rfl⟩⟩; (try first | exact ⟨rfl, _, World.drewN_drewN _ _ _⟩ | exact ⟨rfl, _, Eq.trans (World.drewN_drewN _ _ _) (congrArg (World.drewN _) (Nat.add_assoc _ _ _))⟩)) | (go_at_call 18; (with_reducible refine (clock_Over.calls (wrap64 (t180 + (wrap64 (a2_1)))) t181 true _ A25.out).mono ?_); rintro e w' ⟨rfl, ⟨nd, rfl⟩⟩; (try first | exact ⟨rfl, _, World.drewN_drewN _ _ _⟩ | exact ⟨rfl, _, Eq.trans (World.drewN_drewN _ _ _) (congrArg (World.drewN _) (Nat.add_assoc _ _ _))⟩)) | (go_at_call 18; (with_reducible refine (clock_Over.calls t180 t181 true _ A27.out).mono ?_); rintro e w' ⟨rfl, ⟨nd, rfl⟩⟩; (try first | exact ⟨rfl, _, World.drewN_drewN _ _ _⟩ | exact ⟨rfl, _, Eq.trans (World.drewN_drewN _ _ _) (congrArg (World.drewN _) (Nat.add_assoc _ _ _))⟩))))
              go_ret
              exact ⟨by first | rfl | (simp [errW_none, errW_some] <;> rfl) | (simp [*, errW_none, errW_some] <;> rfl) | (exfalso; simp_all only [aside0_iff, Option.some.injEq, reduceCtorEq]), by repeat (first | (with_reducible first | exact HB.out | apply below_alloc | apply pw_below_drewN | apply below_drew1 | refine below_set ?_ GE178.out) | exact HB.out)⟩
            · replace c28 := Bool.eq_false_iff.mpr c28
              subst c28
              have H1 : (some false) = some r := by rw [if_neg (show ¬ (false = true) by decide)] at H; exact H
              clear H
              have H := H1
              clear H1
              exact absurd ((Option.some.inj H).trans HLAW.out) (by decide)
          · replace c26 := Bool.eq_false_iff.mpr c26
            subst c26
            have H1 : (some t179) = some r := by rw [if_neg (show ¬ (false = true) by decide)] at H; exact H
            clear H
            have H := H1
            clear H1
            clear HLAW
            obtain rfl := Option.some.inj H
            go_wp2_with (first | (go_at_call 18; (with_reducible refine (clock_Over.calls t180 t181 false _ A17.out).mono ?_); rintro e w' ⟨rfl, ⟨nd, rfl⟩⟩; (try first | exact ⟨rfl, _, World.drewN_drewN _ _ _⟩ | exact ⟨rfl, _, Eq.trans (World.drewN_drewN _ _ _) (congrArg (World.drewN _) (Nat.add_assoc _ _ _))⟩)) | (go_at_call 18; (with_reducible refine (clock_Over.calls (wrap64 (t180 + (wrap64 (a2_1)))) t181 false _ A25.out).mono ?_); rintro e w' ⟨rfl, ⟨nd, rfl⟩⟩; (try first | exact ⟨rfl, _, World.drewN_drewN _ _ _⟩ | exact ⟨rfl, _, Eq.trans (World.drewN_drewN _ _ _) (congrArg (World.drewN _) (Nat.add_assoc _ _ _))⟩)))
            repeat (go_quiet (first | (go_at_call 18; (with_reducible refine (clock_Over.calls t180 t181 false _ A17.out).mono ?_); rintro e w' ⟨rfl, ⟨nd, rfl⟩⟩; (try first | exact ⟨rfl, _, World.drewN_drewN _ _ _⟩ | exact ⟨rfl, _, Eq.trans (World.drewN_drewN _ _ _) (congrArg (World.drewN _) (Nat.add_assoc _ _ _))⟩)) | (go_at_call 18; (with_reducible refine (clock_Over.calls (wrap64 (t180 + (wrap64 (a2_1)))) t181 false _ A25.out).mono ?_); rintro e w' ⟨rfl, ⟨nd, rfl⟩⟩; (try first | exact ⟨rfl, _, World.drewN_drewN _ _ _⟩ | exact ⟨rfl, _, Eq.trans (World.drewN_drewN _ _ _) (congrArg (World.drewN _) (Nat.add_assoc _ _ _))⟩))); try go_wp2_with (first | (go_at_call 18; (with_reducible refine (clock_Over.calls t180 t181 false _ A17.out).mono ?_); rintro e w' ⟨rfl, ⟨nd, rfl⟩⟩; (try first | exact ⟨rfl, _, World.drewN_drewN _ _ _⟩ | exact ⟨rfl, _, Eq.trans (World.drewN_drewN _ _ _) (congrArg (World.drewN _) (Nat.add_assoc _ _ _))⟩)) | (go_at_call 18; (with_reducible refine (clock_Over.calls (wrap64 (t180 + (wrap64 (a2_1)))) t181 false _ A25.out).mono ?_); rintro e w' ⟨rfl, ⟨nd, rfl⟩⟩; (try first | exact ⟨rfl, _, World.drewN_drewN _ _ _⟩ | exact ⟨rfl, _, Eq.trans (World.drewN_drewN _ _ _) (congrArg (World.drewN _) (Nat.add_assoc _ _ _))⟩))))
            go_ret
            exact ⟨by first | rfl | (simp [errW_none, errW_some] <;> rfl) | (simp [*, errW_none, errW_some] <;> rfl) | (exfalso; simp_all only [aside0_iff, Option.some.injEq, reduceCtorEq]), by repeat (first | (with_reducible first | exact HB.out | apply below_alloc | apply pw_below_drewN | apply below_drew1 | refine below_set ?_ GE178.out) | exact HB.out)⟩

/-- THE ONE PURE STATEMENT of burgagelaw16_ClockOrder: yours. -/
def burgagelaw16_ClockOrder.Pure : Prop := ∀ (a0 : Int) (a1 : Int) (a2_0 : Int) (a2_1 : Int), ((Lit.int .i64 a0).wf = true) → ((Lit.int .i64 a1).wf = true) → (((Lit.int .u8 a2_0).wf = true) ∧ ((Lit.int .u8 a2_1).wf = true)) → ∃ k, burgagelaw16_ClockOrder.f k a0 a1 a2_0 a2_1 = some true

/-! ### burgagelaw16_ClockWaits: function 6 -/
def burgagelaw16_ClockWaits.j0 : Nat → Bool → Int → Int → Int → Bool → Option (Bool)
  | 0, _, _, _, _, _ => none
  | k + 1, x5, x6, x7, x8, x32 => if x32 = true then (some false) else ((clock_Over.f x6 x7).bind fun t195 => (if t195 = true then (if x8 = 0 then (some x5) else (some false)) else (if x8 = 0 then (some false) else ((clock_Over.f x6 (wrap64 ((wrap64 (x7 + x8)) - 1))).bind fun t196 => (if t196 = true then (some false) else (some x5))))))
def burgagelaw16_ClockWaits.f (k : Nat) (a0 : Int) (a1 : Int) : Option (Bool) := (burgagelaw16_sanity.f k).bind fun t191 => ((burgageref16_Time.f a0).bind fun t192 => ((clock_Wait.f t192 (wrap64 (t192 + (wrap64 (a1))))).bind fun t193 => (if t193 < 0 then (burgagelaw16_ClockWaits.j0 k t191 t192 (wrap64 (t192 + (wrap64 (a1)))) t193 true) else (if t193 > 100000 then (burgagelaw16_ClockWaits.j0 k t191 t192 (wrap64 (t192 + (wrap64 (a1)))) t193 true) else ((clock_Over.f t192 (wrap64 ((wrap64 (t192 + (wrap64 (a1)))) + t193))).bind fun t194 => (burgagelaw16_ClockWaits.j0 k t191 t192 (wrap64 (t192 + (wrap64 (a1)))) t193 (!t194)))))))
theorem burgagelaw16_ClockWaits.mono_l : ∀ k, (∀ y0 y1 y2 y3 y4, LeO (burgagelaw16_ClockWaits.j0 k y0 y1 y2 y3 y4) (burgagelaw16_ClockWaits.j0 (k + 1) y0 y1 y2 y3 y4))
  | 0 => fun _ _ _ _ _ r h => by simp [burgagelaw16_ClockWaits.j0] at h
  | k + 1 => by
    have ih0 := burgagelaw16_ClockWaits.mono_l k
    · intro y0 y1 y2 y3 y4
      unfold burgagelaw16_ClockWaits.j0
      repeat' first
      | (with_reducible exact ih0 _ _ _ _ _)
      | (with_reducible exact burgagelaw16_sanity.mono _)
      | (with_reducible exact LeO.refl _)
      | (with_reducible exact LeO.none _)
      | (with_reducible refine LeO.ite ?_ ?_)
      | (with_reducible refine LeO.bind ?_ (fun _ => ?_))
      | exact ih0 _ _ _ _ _
      | exact burgagelaw16_sanity.mono _
      | exact LeO.none _
      | refine LeO.ite ?_ ?_
      | refine LeO.bind ?_ (fun _ => ?_)
theorem burgagelaw16_ClockWaits.mono : ∀ a0 a1 k, LeO (burgagelaw16_ClockWaits.f k a0 a1) (burgagelaw16_ClockWaits.f (k + 1) a0 a1) := by
  intro a0 a1 k
  have ih0 := burgagelaw16_ClockWaits.mono_l k
  unfold burgagelaw16_ClockWaits.f
  repeat' first
      | (with_reducible exact ih0 _ _ _ _ _)
      | (with_reducible exact burgagelaw16_sanity.mono _)
      | (with_reducible exact LeO.refl _)
      | (with_reducible exact LeO.none _)
      | (with_reducible refine LeO.ite ?_ ?_)
      | (with_reducible refine LeO.bind ?_ (fun _ => ?_))
      | exact ih0 _ _ _ _ _
      | exact burgagelaw16_sanity.mono _
      | exact LeO.none _
      | refine LeO.ite ?_ ?_
      | refine LeO.bind ?_ (fun _ => ?_)
set_option maxHeartbeats 8000000 in
set_option maxRecDepth 100000 in
theorem burgagelaw16_ClockWaits.calls (k : Nat) (a0 : Int) (a1 : Int) (r : Bool) (w : World) (hr : r = true) (h : burgagelaw16_ClockWaits.f k a0 a1 = some r) :
    Calls Try.prog 6 #[.int .i64 a0, .int .i16 a1] w fun e w' => e = .returned (.bool r) ∧ Below w.heap.size w w' := by
  have HB := Aside0.mk (Below.refl w.heap.size w)
  have HLAW := Aside0.mk hr
  clear hr
  have H : ((burgagelaw16_sanity.f k).bind fun t191 => ((burgageref16_Time.f a0).bind fun t192 => ((clock_Wait.f t192 (wrap64 (t192 + (wrap64 (a1))))).bind fun t193 => (if t193 < 0 then (burgagelaw16_ClockWaits.j0 k t191 t192 (wrap64 (t192 + (wrap64 (a1)))) t193 true) else (if t193 > 100000 then (burgagelaw16_ClockWaits.j0 k t191 t192 (wrap64 (t192 + (wrap64 (a1)))) t193 true) else ((clock_Over.f t192 (wrap64 ((wrap64 (t192 + (wrap64 (a1)))) + t193))).bind fun t194 => (burgagelaw16_ClockWaits.j0 k t191 t192 (wrap64 (t192 + (wrap64 (a1)))) t193 (!t194)))))))) = some r := h
  clear h
  replace H := Option.bind_eq_some_iff.mp H
  obtain ⟨t191, A30, H⟩ := H
  replace H : ((burgageref16_Time.f a0).bind fun t192 => ((clock_Wait.f t192 (wrap64 (t192 + (wrap64 (a1))))).bind fun t193 => (if t193 < 0 then (burgagelaw16_ClockWaits.j0 k t191 t192 (wrap64 (t192 + (wrap64 (a1)))) t193 true) else (if t193 > 100000 then (burgagelaw16_ClockWaits.j0 k t191 t192 (wrap64 (t192 + (wrap64 (a1)))) t193 true) else ((clock_Over.f t192 (wrap64 ((wrap64 (t192 + (wrap64 (a1)))) + t193))).bind fun t194 => (burgagelaw16_ClockWaits.j0 k t191 t192 (wrap64 (t192 + (wrap64 (a1)))) t193 (!t194))))))) = some r := H
  have A3 := Aside0.mk A30
  clear A30
  replace H := Option.bind_eq_some_iff.mp H
  obtain ⟨t192, A40, H⟩ := H
  replace H : ((clock_Wait.f t192 (wrap64 (t192 + (wrap64 (a1))))).bind fun t193 => (if t193 < 0 then (burgagelaw16_ClockWaits.j0 k t191 t192 (wrap64 (t192 + (wrap64 (a1)))) t193 true) else (if t193 > 100000 then (burgagelaw16_ClockWaits.j0 k t191 t192 (wrap64 (t192 + (wrap64 (a1)))) t193 true) else ((clock_Over.f t192 (wrap64 ((wrap64 (t192 + (wrap64 (a1)))) + t193))).bind fun t194 => (burgagelaw16_ClockWaits.j0 k t191 t192 (wrap64 (t192 + (wrap64 (a1)))) t193 (!t194)))))) = some r := H
  have A4 := Aside0.mk A40
  clear A40
  replace H := Option.bind_eq_some_iff.mp H
  obtain ⟨t193, A50, H⟩ := H
  replace H : (if t193 < 0 then (burgagelaw16_ClockWaits.j0 k t191 t192 (wrap64 (t192 + (wrap64 (a1)))) t193 true) else (if t193 > 100000 then (burgagelaw16_ClockWaits.j0 k t191 t192 (wrap64 (t192 + (wrap64 (a1)))) t193 true) else ((clock_Over.f t192 (wrap64 ((wrap64 (t192 + (wrap64 (a1)))) + t193))).bind fun t194 => (burgagelaw16_ClockWaits.j0 k t191 t192 (wrap64 (t192 + (wrap64 (a1)))) t193 (!t194))))) = some r := H
  have A5 := Aside0.mk A50
  clear A50
  have HC6 := Aside0.mk H
  clear H
  go_enter Try.func6, Try.ntmps6
  go_upto_region 5 with (first | ((with_reducible refine gate_callee (f := 10) rfl ?_); refine goesL_ (some 9) rfl rfl Try.func10 (by kernel_rfl) rfl #[] rfl (by (try simp only [List.map_toArray, List.map_cons, List.map_nil]); first | done | rfl | (simp only [List.length_drop, List.length_take]; rfl)) ?_; (with_reducible refine (burgagelaw16_sanity.calls k  t191 _ A3.out).mono ?_); rintro e w7 ⟨rfl, hb⟩; refine ⟨_, rfl, ?_⟩; have n0_ := Aside0.mk (below_step (by repeat (first | (with_reducible first | exact HB.out | apply below_alloc | apply pw_below_drewN | apply below_drew1) | exact HB.out)) hb); clear HB; have HB := n0_; clear n0_; (try clear hb); (try clear hb2); (try clear hk); (try clear hi)) | ((with_reducible refine gate_callee (f := 12) rfl ?_); refine goesL_ (some 11) rfl rfl Try.func12 (by kernel_rfl) rfl #[.int .i64 a0] rfl (by (try simp only [List.map_toArray, List.map_cons, List.map_nil]); first | done | rfl | (simp only [List.length_drop, List.length_take]; rfl)) ?_; (with_reducible refine (burgageref16_Time.calls a0 t192 _ A4.out).mono ?_); rintro e w' ⟨rfl, ⟨nd, rfl⟩⟩; refine ⟨_, rfl, ?_⟩) | ((with_reducible refine gate_callee (f := 20) rfl ?_); refine goesL_ (some 18) rfl rfl Try.func20 (by kernel_rfl) rfl #[.int .i64 t192, .int .i64 (wrap64 (t192 + (wrap64 (a1))))] rfl (by (try simp only [List.map_toArray, List.map_cons, List.map_nil]); first | done | rfl | (simp only [List.length_drop, List.length_take]; rfl)) ?_; (with_reducible refine (clock_Wait.calls t192 (wrap64 (t192 + (wrap64 (a1)))) t193 _ A5.out).mono ?_); rintro e w8 ⟨rfl, hb⟩; refine ⟨_, rfl, ?_⟩; have n0_ := Aside0.mk (below_step (by repeat (first | (with_reducible first | exact HB.out | apply below_alloc | apply pw_below_drewN | apply below_drew1) | exact HB.out)) hb); clear HB; have HB := n0_; clear n0_; (try clear hb); (try clear hb2); (try clear hk); (try clear hi)))
  (try simp only [Act.put, List.setIfInBounds_toArray, List.set_cons_zero, List.set_cons_succ])
  go_cut [32] (fun v32 wc => ∃ (kq : Nat) (x32_5 : Bool), v32 = .bool x32_5 ∧ Aside0 (burgagelaw16_ClockWaits.j0 kq t191 t192 (wrap64 (t192 + (wrap64 (a1)))) t193 x32_5 = some r) ∧ Aside0 (kq ≤ k) ∧ Aside0 (Below w.heap.size w wc))
  case first =>
    have H := HC6.out
    clear HC6
    by_cases c9 : t193 < 0
    · rw [if_pos c9] at H
      have c9b0 : decide (t193 < 0) = true := decide_eq_true c9
      clear c9
      (first | rw [c9b0] | (simp only [i64_w, i32_w]; rw [c9b0]) | skip)
      have H' := Aside0.mk H
      clear H
      go_wp2
      go_meet
      case rel => exact ⟨_, (true), (by first | rfl | (simp; done) | (simp [*]; done)), H', ⟨by first | omega | exact Nat.le_refl _⟩, ⟨by repeat (first | (with_reducible first | exact HB.out | apply below_alloc | apply pw_below_drewN | apply below_drew1) | exact HB.out)⟩⟩
    · rw [if_neg c9] at H
      have c9b0 : decide (t193 < 0) = false := decide_eq_false c9
      clear c9
      (first | rw [c9b0] | (simp only [i64_w, i32_w]; rw [c9b0]) | skip)
      by_cases c10 : t193 > 100000
      · rw [if_pos c10] at H
        have c10b0 : decide (100000 < t193) = true := decide_eq_true c10
        clear c10
        have H' := Aside0.mk H
        clear H
        go_wp2
        go_meet
        case rel => exact ⟨_, (true), (by first | rfl | (simp; done) | (simp [*]; done)), H', ⟨by first | omega | exact Nat.le_refl _⟩, ⟨by repeat (first | (with_reducible first | exact HB.out | apply below_alloc | apply pw_below_drewN | apply below_drew1) | exact HB.out)⟩⟩
      · rw [if_neg c10] at H
        have c10b0 : decide (100000 < t193) = false := decide_eq_false c10
        clear c10
        replace H := Option.bind_eq_some_iff.mp H
        obtain ⟨t194, A110, H⟩ := H
        replace H : (burgagelaw16_ClockWaits.j0 k t191 t192 (wrap64 (t192 + (wrap64 (a1)))) t193 (!t194)) = some r := H
        have A11 := Aside0.mk A110
        clear A110
        have H' := Aside0.mk H
        clear H
        go_wp2_with (first | (go_at_call 18; (with_reducible refine (clock_Over.calls t192 (wrap64 ((wrap64 (t192 + (wrap64 (a1)))) + t193)) t194 _ A11.out).mono ?_); rintro e w' ⟨rfl, ⟨nd, rfl⟩⟩))
        go_meet
        case rel => exact ⟨_, (!t194), (by first | rfl | (simp; done) | (simp [*]; done)), H', ⟨by first | omega | exact Nat.le_refl _⟩, ⟨by repeat (first | (with_reducible first | exact HB.out | apply below_alloc | apply pw_below_drewN | apply below_drew1) | exact HB.out)⟩⟩
  case rest =>
    clear HC6
    try clear c1
    try clear c2
    try clear p2
    try clear c6
    try clear p6
    try clear c9
    try clear c9b0
    try clear c10
    try clear c10b0
    obtain ⟨kq, x32_5, rfl, HA, HJ5, HB⟩ := hcut
    cases kq with
    | zero => exact absurd HA.out (by simp [burgagelaw16_ClockWaits.j0])
    | succ kj5 =>
      have H := HA.out
      clear HA
      simp only [burgagelaw16_ClockWaits.j0] at H
      by_cases c12 : x32_5 = true
      · subst c12
        have H1 : (some false) = some r := by rw [if_pos rfl] at H; exact H
        clear H
        have H := H1
        clear H1
        exact absurd ((Option.some.inj H).trans HLAW.out) (by decide)
      · replace c12 := Bool.eq_false_iff.mpr c12
        subst c12
        have H1 : ((clock_Over.f t192 (wrap64 (t192 + (wrap64 (a1))))).bind fun t195 => (if t195 = true then (if t193 = 0 then (some t191) else (some false)) else (if t193 = 0 then (some false) else ((clock_Over.f t192 (wrap64 ((wrap64 ((wrap64 (t192 + (wrap64 (a1)))) + t193)) - 1))).bind fun t196 => (if t196 = true then (some false) else (some t191)))))) = some r := by rw [if_neg (show ¬ (false = true) by decide)] at H; exact H
        clear H
        have H := H1
        clear H1
        replace H := Option.bind_eq_some_iff.mp H
        obtain ⟨t195, A130, H⟩ := H
        replace H : (if t195 = true then (if t193 = 0 then (some t191) else (some false)) else (if t193 = 0 then (some false) else ((clock_Over.f t192 (wrap64 ((wrap64 ((wrap64 (t192 + (wrap64 (a1)))) + t193)) - 1))).bind fun t196 => (if t196 = true then (some false) else (some t191))))) = some r := H
        have A13 := Aside0.mk A130
        clear A130
        by_cases c14 : t195 = true
        · subst c14
          have H1 : (if t193 = 0 then (some t191) else (some false)) = some r := by rw [if_pos rfl] at H; exact H
          clear H
          have H := H1
          clear H1
          by_cases c15 : t193 = 0
          · rw [if_pos c15] at H
            have c15b0 : (t193 == 0) = true := beq_iff_eq.mpr c15
            have c15b1 : (t193 != 0) = false := bne_eq_false_iff_eq.mpr c15
            clear c15
            clear HLAW
            obtain rfl := Option.some.inj H
            go_wp2_with (first | ((with_reducible refine gate_callee (f := 18) rfl ?_); refine goesL_ (some 37) rfl rfl Try.func18 (by kernel_rfl) rfl #[.int .i64 t192, .int .i64 (wrap64 (t192 + (wrap64 (a1))))] rfl (by (try simp only [List.map_toArray, List.map_cons, List.map_nil]); first | done | rfl | (simp only [List.length_drop, List.length_take]; rfl)) ?_; (with_reducible refine (clock_Over.calls t192 (wrap64 (t192 + (wrap64 (a1)))) true _ A13.out).mono ?_); rintro e w' ⟨rfl, ⟨nd, rfl⟩⟩; refine ⟨_, rfl, ?_⟩))
            go_ret
            exact ⟨by first | rfl | (simp [errW_none, errW_some] <;> rfl) | (simp [*, errW_none, errW_some] <;> rfl) | (exfalso; simp_all only [aside0_iff, Option.some.injEq, reduceCtorEq]), by repeat (first | (with_reducible first | exact HB.out | apply below_alloc | apply pw_below_drewN | apply below_drew1) | exact HB.out)⟩
          · rw [if_neg c15] at H
            have c15b0 : (t193 == 0) = false := beq_eq_false_iff_ne.mpr c15
            have c15b1 : (t193 != 0) = true := bne_iff_ne.mpr c15
            exact absurd ((Option.some.inj H).trans HLAW.out) (by decide)
        · replace c14 := Bool.eq_false_iff.mpr c14
          subst c14
          have H1 : (if t193 = 0 then (some false) else ((clock_Over.f t192 (wrap64 ((wrap64 ((wrap64 (t192 + (wrap64 (a1)))) + t193)) - 1))).bind fun t196 => (if t196 = true then (some false) else (some t191)))) = some r := by rw [if_neg (show ¬ (false = true) by decide)] at H; exact H
          clear H
          have H := H1
          clear H1
          by_cases c16 : t193 = 0
          · rw [if_pos c16] at H
            have c16b0 : (t193 == 0) = true := beq_iff_eq.mpr c16
            have c16b1 : (t193 != 0) = false := bne_eq_false_iff_eq.mpr c16
            clear c16
            exact absurd ((Option.some.inj H).trans HLAW.out) (by decide)
          · rw [if_neg c16] at H
            have c16b0 : (t193 == 0) = false := beq_eq_false_iff_ne.mpr c16
            have c16b1 : (t193 != 0) = true := bne_iff_ne.mpr c16
            replace H := Option.bind_eq_some_iff.mp H
            obtain ⟨t196, A170, H⟩ := H
            replace H : (if t196 = true then (some false) else (some t191)) = some r := H
            have A17 := Aside0.mk A170
            clear A170
            by_cases c18 : t196 = true
            · subst c18
              have H1 : (some false) = some r := by rw [if_pos rfl] at H; exact H
              clear H
              have H := H1
              clear H1
              exact absurd ((Option.some.inj H).trans HLAW.out) (by decide)
            · replace c18 := Bool.eq_false_iff.mpr c18
              subst c18
              have H1 : (some t191) = some r := by rw [if_neg (show ¬ (false = true) by decide)] at H; exact H
              clear H
              have H := H1
              clear H1
              clear HLAW
              obtain rfl := Option.some.inj H
              go_wp2_with (first | ((with_reducible refine gate_callee (f := 18) rfl ?_); refine goesL_ (some 37) rfl rfl Try.func18 (by kernel_rfl) rfl #[.int .i64 t192, .int .i64 (wrap64 (t192 + (wrap64 (a1))))] rfl (by (try simp only [List.map_toArray, List.map_cons, List.map_nil]); first | done | rfl | (simp only [List.length_drop, List.length_take]; rfl)) ?_; (with_reducible refine (clock_Over.calls t192 (wrap64 (t192 + (wrap64 (a1)))) false _ A13.out).mono ?_); rintro e w' ⟨rfl, ⟨nd, rfl⟩⟩; refine ⟨_, rfl, ?_⟩) | (go_at_call 18; (with_reducible refine (clock_Over.calls t192 (wrap64 ((wrap64 ((wrap64 (t192 + (wrap64 (a1)))) + t193)) - 1)) false _ A17.out).mono ?_); rintro e w' ⟨rfl, ⟨nd, rfl⟩⟩))
              go_ret
              exact ⟨by first | rfl | (simp [errW_none, errW_some] <;> rfl) | (simp [*, errW_none, errW_some] <;> rfl) | (exfalso; simp_all only [aside0_iff, Option.some.injEq, reduceCtorEq]), by repeat (first | (with_reducible first | exact HB.out | apply below_alloc | apply pw_below_drewN | apply below_drew1) | exact HB.out)⟩

/-- THE ONE PURE STATEMENT of burgagelaw16_ClockWaits: yours. -/
def burgagelaw16_ClockWaits.Pure : Prop := ∀ (a0 : Int) (a1 : Int), ((Lit.int .i64 a0).wf = true) → ((Lit.int .i16 a1).wf = true) → ∃ k, burgagelaw16_ClockWaits.f k a0 a1 = some true

end Go.Proofs.Ytmhpclmfacejhaa.PC
