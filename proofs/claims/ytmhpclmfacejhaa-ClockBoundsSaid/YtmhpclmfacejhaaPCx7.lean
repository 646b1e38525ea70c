/- Plain Lean functions with the answers of the Go functions that these laws reach, and proofs that the calls come to them; written by this session's program. -/
import Derived.Test.YtmhpclmfacejhaaPCx0
import Derived.Test.YtmhpclmfacejhaaPCx3
namespace Go.Proofs.Ytmhpclmfacejhaa.PC
open Go.RowKit Go.Proofs.YtmhpclmfacejhaaW.PrintWords Go.Proofs.YtmhpclmfacejhaaW.PrintLast Go.Proofs.YtmhpclmfacejhaaW.PrintMore
attribute [local go_sem] max2_int min2_int max_two min_two max_three min_three max_four min_four   -- for this text's walks alone
set_option linter.unusedVariables false
set_option linter.unusedSimpArgs false

/-! ### burgagelaw16_ClockBounds: function 7 -/
def burgagelaw16_ClockBounds.j0 : Nat → Bool → Int → Bool → Int → Int → Int → Int → Option (Bool)
  | 0, _, _, _, _, _, _, _ => none
  | k + 1, x5, x7, x47, x198000, x198001, x207000, x207001 => if x47 = true then (some false) else ((clock_Read.f (wrap64 (x7 - (wrap64 (x207000 + (Int.tmod (wrap64 (x198001)) 21))))) (wrap64 (x207000 + (Int.tmod (wrap64 (x198001)) 21)))).bind fun t207 => (if t207 = x7 then ((clock_Valid.f (wrap64 (x7 - (wrap64 (x207000 + (Int.tmod (wrap64 (x198001)) 21)))))).bind fun t208 => (if t208 = true then (if (wrap64 (x207000 + (Int.tmod (wrap64 (x198001)) 21))) ≤ x207001 then (if (wrap64 (x207001 - x207000)) = 20 then (some x5) else (some false)) else (some false)) else (some false))) else (some false)))
def burgagelaw16_ClockBounds.f (k : Nat) (a0_0 : Int) (a0_1 : Int) (a1 : Int) : Option (Bool) := (burgagelaw16_sanity.f k).bind fun t198 => ((burgageref16_Time.f a1).bind fun t199 => ((burgageref16_Made.f a0_0).bind fun t200 => ((clock_Read.f t200 t199).bind fun t201 => ((burgageref16_Made.f a0_1).bind fun t202 => ((clock_Read.f t202 t199).bind fun t203 => ((burgagelaw16_between.f t201).bind fun bt204 => (if t199 < bt204.1 then (burgagelaw16_ClockBounds.j0 k t198 t201 true a0_0 a0_1 bt204.1 bt204.2) else (if t199 > bt204.2 then (burgagelaw16_ClockBounds.j0 k t198 t201 true a0_0 a0_1 bt204.1 bt204.2) else (if (wrap64 (t201 - t203)) > 20 then (burgagelaw16_ClockBounds.j0 k t198 t201 true a0_0 a0_1 bt204.1 bt204.2) else (burgagelaw16_ClockBounds.j0 k t198 t201 (decide ((wrap64 (t203 - t201)) > 20)) a0_0 a0_1 bt204.1 bt204.2))))))))))
theorem burgagelaw16_ClockBounds.mono_l : ∀ k, (∀ y0 y1 y2 y3 y4 y5 y6, LeO (burgagelaw16_ClockBounds.j0 k y0 y1 y2 y3 y4 y5 y6) (burgagelaw16_ClockBounds.j0 (k + 1) y0 y1 y2 y3 y4 y5 y6))
  | 0 => fun _ _ _ _ _ _ _ r h => by simp [burgagelaw16_ClockBounds.j0] at h
  | k + 1 => by
    have ih0 := burgagelaw16_ClockBounds.mono_l k
    · intro y0 y1 y2 y3 y4 y5 y6
      unfold burgagelaw16_ClockBounds.j0
      repeat' first
      | (with_reducible exact ih0 _ _ _ _ _ _ _)
      | (with_reducible exact burgagelaw16_sanity.mono _)
      | (with_reducible exact LeO.refl _)
      | (with_reducible exact LeO.none _)
      | (with_reducible refine LeO.ite ?_ ?_)
      | (with_reducible refine LeO.bind ?_ (fun _ => ?_))
      | exact ih0 _ _ _ _ _ _ _
      | exact burgagelaw16_sanity.mono _
      | exact LeO.none _
      | refine LeO.ite ?_ ?_
      | refine LeO.bind ?_ (fun _ => ?_)
theorem burgagelaw16_ClockBounds.mono : ∀ a0 a1 a2 k, LeO (burgagelaw16_ClockBounds.f k a0 a1 a2) (burgagelaw16_ClockBounds.f (k + 1) a0 a1 a2) := by
  intro a0 a1 a2 k
  have ih0 := burgagelaw16_ClockBounds.mono_l k
  unfold burgagelaw16_ClockBounds.f
  repeat' first
      | (with_reducible exact ih0 _ _ _ _ _ _ _)
      | (with_reducible exact burgagelaw16_sanity.mono _)
      | (with_reducible exact LeO.refl _)
      | (with_reducible exact LeO.none _)
      | (with_reducible refine LeO.ite ?_ ?_)
      | (with_reducible refine LeO.bind ?_ (fun _ => ?_))
      | exact ih0 _ _ _ _ _ _ _
      | exact burgagelaw16_sanity.mono _
      | exact LeO.none _
      | refine LeO.ite ?_ ?_
      | refine LeO.bind ?_ (fun _ => ?_)
def burgagelaw16_ClockBounds.T3 : Bool × List (List Nat × List Nat) := (true, [([], []), ([0], [0]), ([1], [1]), ([], []), ([2, 3, 2], [2, 3]), ([], []), ([5], [5]), ([6, 4], [6]), ([], []), ([7, 8, 7], [7, 8]), ([4, 9, 0, 1, 2, 3, 4], [4]), ([9, 10, 0, 1, 2, 3, 4, 5, 6, 7, 8, 9, 10], [9])])
def burgagelaw16_ClockBounds.B3 : List Nat := [0, 1, 3, 0, 15, 0, 32, 127, 0, 511, 1023, 2047]
theorem burgagelaw16_ClockBounds.tab3 : rtab .any (opsOf Try.f7 3) = burgagelaw16_ClockBounds.T3 := by kernel_rfl
theorem burgagelaw16_ClockBounds.bits3 : waitsOk burgagelaw16_ClockBounds.T3.2 burgagelaw16_ClockBounds.B3 = true := by kernel_rfl
set_option maxHeartbeats 8000000 in
set_option maxRecDepth 100000 in
theorem burgagelaw16_ClockBounds.calls (k : Nat) (a0_0 : Int) (a0_1 : Int) (a1 : Int) (r : Bool) (w : World) (hr : r = true) (h : burgagelaw16_ClockBounds.f k a0_0 a0_1 a1 = some r) :
    Calls Try.prog 7 #[.agg #[.int .u8 a0_0, .int .u8 a0_1], .int .i64 a1] w fun e w' => e = .returned (.bool r) ∧ Below w.heap.size w w' := by
  have hu37 := Try.underlying37
  have hu30 := Try.underlying30
  have hu25 := Try.underlying25
  have HB := Aside0.mk (Below.refl w.heap.size w)
  have HLAW := Aside0.mk hr
  clear hr
  have H : ((burgagelaw16_sanity.f k).bind fun t198 => ((burgageref16_Time.f a1).bind fun t199 => ((burgageref16_Made.f a0_0).bind fun t200 => ((clock_Read.f t200 t199).bind fun t201 => ((burgageref16_Made.f a0_1).bind fun t202 => ((clock_Read.f t202 t199).bind fun t203 => ((burgagelaw16_between.f t201).bind fun bt204 => (if t199 < bt204.1 then (burgagelaw16_ClockBounds.j0 k t198 t201 true a0_0 a0_1 bt204.1 bt204.2) else (if t199 > bt204.2 then (burgagelaw16_ClockBounds.j0 k t198 t201 true a0_0 a0_1 bt204.1 bt204.2) else (if (wrap64 (t201 - t203)) > 20 then (burgagelaw16_ClockBounds.j0 k t198 t201 true a0_0 a0_1 bt204.1 bt204.2) else (burgagelaw16_ClockBounds.j0 k t198 t201 (decide ((wrap64 (t203 - t201)) > 20)) a0_0 a0_1 bt204.1 bt204.2))))))))))) = some r := h
  clear h
  replace H := Option.bind_eq_some_iff.mp H
  obtain ⟨t198, A30, H⟩ := H
  replace H : ((burgageref16_Time.f a1).bind fun t199 => ((burgageref16_Made.f a0_0).bind fun t200 => ((clock_Read.f t200 t199).bind fun t201 => ((burgageref16_Made.f a0_1).bind fun t202 => ((clock_Read.f t202 t199).bind fun t203 => ((burgagelaw16_between.f t201).bind fun bt204 => (if t199 < bt204.1 then (burgagelaw16_ClockBounds.j0 k t198 t201 true a0_0 a0_1 bt204.1 bt204.2) else (if t199 > bt204.2 then (burgagelaw16_ClockBounds.j0 k t198 t201 true a0_0 a0_1 bt204.1 bt204.2) else (if (wrap64 (t201 - t203)) > 20 then (burgagelaw16_ClockBounds.j0 k t198 t201 true a0_0 a0_1 bt204.1 bt204.2) else (burgagelaw16_ClockBounds.j0 k t198 t201 (decide ((wrap64 (t203 - t201)) > 20)) a0_0 a0_1 bt204.1 bt204.2)))))))))) = some r := H
  have A3 := Aside0.mk A30
  clear A30
  replace H := Option.bind_eq_some_iff.mp H
  obtain ⟨t199, A40, H⟩ := H
  replace H : ((burgageref16_Made.f a0_0).bind fun t200 => ((clock_Read.f t200 t199).bind fun t201 => ((burgageref16_Made.f a0_1).bind fun t202 => ((clock_Read.f t202 t199).bind fun t203 => ((burgagelaw16_between.f t201).bind fun bt204 => (if t199 < bt204.1 then (burgagelaw16_ClockBounds.j0 k t198 t201 true a0_0 a0_1 bt204.1 bt204.2) else (if t199 > bt204.2 then (burgagelaw16_ClockBounds.j0 k t198 t201 true a0_0 a0_1 bt204.1 bt204.2) else (if (wrap64 (t201 - t203)) > 20 then (burgagelaw16_ClockBounds.j0 k t198 t201 true a0_0 a0_1 bt204.1 bt204.2) else (burgagelaw16_ClockBounds.j0 k t198 t201 (decide ((wrap64 (t203 - t201)) > 20)) a0_0 a0_1 bt204.1 bt204.2))))))))) = some r := H
  have A4 := Aside0.mk A40
  clear A40
  replace H := Option.bind_eq_some_iff.mp H
  obtain ⟨t200, A50, H⟩ := H
  replace H : ((clock_Read.f t200 t199).bind fun t201 => ((burgageref16_Made.f a0_1).bind fun t202 => ((clock_Read.f t202 t199).bind fun t203 => ((burgagelaw16_between.f t201).bind fun bt204 => (if t199 < bt204.1 then (burgagelaw16_ClockBounds.j0 k t198 t201 true a0_0 a0_1 bt204.1 bt204.2) else (if t199 > bt204.2 then (burgagelaw16_ClockBounds.j0 k t198 t201 true a0_0 a0_1 bt204.1 bt204.2) else (if (wrap64 (t201 - t203)) > 20 then (burgagelaw16_ClockBounds.j0 k t198 t201 true a0_0 a0_1 bt204.1 bt204.2) else (burgagelaw16_ClockBounds.j0 k t198 t201 (decide ((wrap64 (t203 - t201)) > 20)) a0_0 a0_1 bt204.1 bt204.2)))))))) = some r := H
  have A5 := Aside0.mk A50
  clear A50
  replace H := Option.bind_eq_some_iff.mp H
  obtain ⟨t201, A60, H⟩ := H
  replace H : ((burgageref16_Made.f a0_1).bind fun t202 => ((clock_Read.f t202 t199).bind fun t203 => ((burgagelaw16_between.f t201).bind fun bt204 => (if t199 < bt204.1 then (burgagelaw16_ClockBounds.j0 k t198 t201 true a0_0 a0_1 bt204.1 bt204.2) else (if t199 > bt204.2 then (burgagelaw16_ClockBounds.j0 k t198 t201 true a0_0 a0_1 bt204.1 bt204.2) else (if (wrap64 (t201 - t203)) > 20 then (burgagelaw16_ClockBounds.j0 k t198 t201 true a0_0 a0_1 bt204.1 bt204.2) else (burgagelaw16_ClockBounds.j0 k t198 t201 (decide ((wrap64 (t203 - t201)) > 20)) a0_0 a0_1 bt204.1 bt204.2))))))) = some r := H
  have A6 := Aside0.mk A60
  clear A60
  replace H := Option.bind_eq_some_iff.mp H
  obtain ⟨t202, A70, H⟩ := H
  replace H : ((clock_Read.f t202 t199).bind fun t203 => ((burgagelaw16_between.f t201).bind fun bt204 => (if t199 < bt204.1 then (burgagelaw16_ClockBounds.j0 k t198 t201 true a0_0 a0_1 bt204.1 bt204.2) else (if t199 > bt204.2 then (burgagelaw16_ClockBounds.j0 k t198 t201 true a0_0 a0_1 bt204.1 bt204.2) else (if (wrap64 (t201 - t203)) > 20 then (burgagelaw16_ClockBounds.j0 k t198 t201 true a0_0 a0_1 bt204.1 bt204.2) else (burgagelaw16_ClockBounds.j0 k t198 t201 (decide ((wrap64 (t203 - t201)) > 20)) a0_0 a0_1 bt204.1 bt204.2)))))) = some r := H
  have A7 := Aside0.mk A70
  clear A70
  replace H := Option.bind_eq_some_iff.mp H
  obtain ⟨t203, A80, H⟩ := H
  replace H : ((burgagelaw16_between.f t201).bind fun bt204 => (if t199 < bt204.1 then (burgagelaw16_ClockBounds.j0 k t198 t201 true a0_0 a0_1 bt204.1 bt204.2) else (if t199 > bt204.2 then (burgagelaw16_ClockBounds.j0 k t198 t201 true a0_0 a0_1 bt204.1 bt204.2) else (if (wrap64 (t201 - t203)) > 20 then (burgagelaw16_ClockBounds.j0 k t198 t201 true a0_0 a0_1 bt204.1 bt204.2) else (burgagelaw16_ClockBounds.j0 k t198 t201 (decide ((wrap64 (t203 - t201)) > 20)) a0_0 a0_1 bt204.1 bt204.2))))) = some r := H
  have A8 := Aside0.mk A80
  clear A80
  replace H := Option.bind_eq_some_iff.mp H
  obtain ⟨⟨t204, t205⟩, A90, H⟩ := H
  replace H : (if t199 < t204 then (burgagelaw16_ClockBounds.j0 k t198 t201 true a0_0 a0_1 t204 t205) else (if t199 > t205 then (burgagelaw16_ClockBounds.j0 k t198 t201 true a0_0 a0_1 t204 t205) else (if (wrap64 (t201 - t203)) > 20 then (burgagelaw16_ClockBounds.j0 k t198 t201 true a0_0 a0_1 t204 t205) else (burgagelaw16_ClockBounds.j0 k t198 t201 (decide ((wrap64 (t203 - t201)) > 20)) a0_0 a0_1 t204 t205)))) = some r := H
  have A9 := Aside0.mk A90
  clear A90
  have HC10 := Aside0.mk H
  clear H
  go_enter Try.func7, Try.ntmps7
  try go_wp2_with (first | ((with_reducible refine gate_dst (N := 2) rfl ?_); refine box_event ?hg (N := 2) ?hd (cs := #[.int .u8 a0_0, .int .u8 a0_1]) (t := 37) ?hr ?_; (case hd => rfl); (case hg => rfl); (case hr => first | (go_simp; done) | (go_simp; rfl)); intro gb197 hg w11 hbox hb; have n0_ := Aside0.mk (below_step (by repeat (first | (with_reducible first | exact HB.out | apply below_alloc | apply pw_below_drewN | apply below_drew1) | exact HB.out)) hb); have n1_ := Aside0.mk (hbox); have n2_ := Aside0.mk ((by rw [hg]; exact (below_size (by repeat (first | (with_reducible first | exact HB.out | apply below_alloc | apply pw_below_drewN | apply below_drew1) | exact HB.out))) : w.heap.size ≤ gb197)); have n3_ := Aside0.mk ((by rw [hg]; exact (below_size (by repeat (first | (with_reducible first | exact HB.out | apply below_alloc | apply pw_below_drewN | apply below_drew1) | exact HB.out))) : w.heap.size ≤ gb197)); clear HB; have HB := n0_; have BK197 := n1_; have GW197 := n2_; have GE197 := n3_; clear n0_ n1_ n2_ n3_; clear hb hbox hg) | ((with_reducible refine gate_callee (f := 10) rfl ?_); refine goesL_ (some 11) rfl rfl Try.func10 (by kernel_rfl) rfl #[] rfl (by (try simp only [List.map_toArray, List.map_cons, List.map_nil]); first | done | rfl | (simp only [List.length_drop, List.length_take]; rfl)) ?_; (with_reducible refine (burgagelaw16_sanity.calls k  t198 _ A3.out).mono ?_); rintro e w12 ⟨rfl, hb⟩; refine ⟨_, rfl, ?_⟩; have n0_ := Aside0.mk (blk_below (g := gb197) (o := .cells #[.int .u8 a0_0, .int .u8 a0_1] 37 (0, 0)) (by (with_reducible repeat (first | refine blk_drewN ?_ _ | refine blk_drew ?_ | refine blk_alloc ?_ _)); exact BK197.out) hb); have n1_ := Aside0.mk (below_step (by repeat (first | (with_reducible first | exact HB.out | apply below_alloc | apply pw_below_drewN | apply below_drew1 | refine below_set ?_ GE197.out) | exact HB.out)) hb); clear BK197; clear HB; have BK197 := n0_; have HB := n1_; clear n0_ n1_; (try clear hb); (try clear hb2); (try clear hk); (try clear hi)) | ((with_reducible refine gate_callee (f := 12) rfl ?_); refine goesL_ (some 13) rfl rfl Try.func12 (by kernel_rfl) rfl #[.int .i64 a1] rfl (by (try simp only [List.map_toArray, List.map_cons, List.map_nil]); first | done | rfl | (simp only [List.length_drop, List.length_take]; rfl)) ?_; (with_reducible refine (burgageref16_Time.calls a1 t199 _ A4.out).mono ?_); rintro e w' ⟨rfl, ⟨nd, rfl⟩⟩; refine ⟨_, rfl, ?_⟩; (try (rw [drewN_self w12]; generalize hq_ : World.drewN w12 _ = w12; have n0_ : Aside0 (w12.heap[gb197]? = some (.cells #[.int .u8 a0_0, .int .u8 a0_1] 37 (0, 0))) := ⟨by rw [← hq_]; exact (by (with_reducible repeat (first | refine blk_drewN ?_ _ | refine blk_drew ?_ | refine blk_alloc ?_ _)); exact BK197.out)⟩; have n1_ : Aside0 (Below w.heap.size w w12) := ⟨by rw [← hq_]; exact (by repeat (first | (with_reducible first | exact HB.out | apply below_alloc | apply pw_below_drewN | apply below_drew1 | refine below_set ?_ GE197.out) | exact HB.out))⟩; clear BK197 HB hq_; have BK197 := n0_; have HB := n1_; clear n0_ n1_))))
  have n0_ := Aside0.mk (blk_drew BK197.out)
  have n1_ := Aside0.mk (below_drew1 HB.out)
  clear BK197
  clear HB
  have BK197 := n0_
  have HB := n1_
  clear n0_ n1_
  refine start_ (n := 12) (S := fun w' => w'.cell? ⟨gb197, 0, none⟩ = some (.int .u8 a0_0) ∧ w'.cell? ⟨gb197, 1, none⟩ = some (.int .u8 a0_1)) (ds := []) #[false, false, false, false, false, false, false, false, false, false, false, false] (by kernel_rfl) rfl rfl ⟨(blk_cell BK197.out 0).trans rfl, (blk_cell BK197.out 1).trans rfl⟩ (fun hHeld => ?_); refine with_tabW burgagelaw16_ClockBounds.tab3 burgagelaw16_ClockBounds.bits3 (fun HT_ HW_ => ?_)
  generalize w12.drew = w13 at BK197 HB hHeld ⊢
  refine pure_ (i := 0) (N := some 14) (v := ?_) (a' := ?_) #[true, false, false, false, false, false, false, false, false, false, false, false] rfl rfl (any_of HT_.out (by kernel_rfl)) (fun _ _ _ h => h) (Or.inl ⟨by rfl, ?_⟩) ?_ ?_
  rotate_left
  · intro w'
    go_simp
    with_reducible rfl
  rotate_left
  · simp only [Act.put, List.setIfInBounds_toArray, List.set_cons_zero, List.set_cons_succ, i64_w, i32_w]
    rfl
  refine pure_ (i := 3) (N := some 17) (v := ?_) (a' := ?_) #[true, false, false, true, false, false, false, false, false, false, false, false] rfl rfl (any_of HT_.out (by kernel_rfl)) (fun _ _ _ h => h) (Or.inl ⟨by rfl, ?_⟩) ?_ ?_
  rotate_left
  · intro w'
    go_simp
    with_reducible rfl
  rotate_left
  · simp only [Act.put, List.setIfInBounds_toArray, List.set_cons_zero, List.set_cons_succ, i64_w, i32_w]
    rfl
  refine pure_ (i := 5) (N := some 19) (v := ?_) (a' := ?_) #[true, false, false, true, false, true, false, false, false, false, false, false] rfl rfl (any_of HT_.out (by kernel_rfl)) (fun _ _ _ h => h) (Or.inl ⟨by rfl, ?_⟩) ?_ ?_
  rotate_left
  · intro w'
    go_simp
    with_reducible rfl
  rotate_left
  · simp only [Act.put, List.setIfInBounds_toArray, List.set_cons_zero, List.set_cons_succ, i64_w, i32_w]
    rfl
  refine pure_ (i := 8) (N := some 22) (v := ?_) (a' := ?_) #[true, false, false, true, false, true, false, false, true, false, false, false] rfl rfl (any_of HT_.out (by kernel_rfl)) (fun _ _ _ h => h) (Or.inl ⟨by rfl, ?_⟩) ?_ ?_
  rotate_left
  · intro w'
    go_simp
    with_reducible rfl
  rotate_left
  · simp only [Act.put, List.setIfInBounds_toArray, List.set_cons_zero, List.set_cons_succ, i64_w, i32_w]
    rfl
  refine take_ (i := 1) (N := some 15) (v := ?_) (a' := ?_) #[true, true, false, true, false, true, false, false, true, false, false, false] rfl rfl (take_ofW HT_.out HW_.out (by kernel_rfl)) (fun _ _ _ h => h) (Or.inl ⟨by rfl, ?_⟩) hHeld ?_ ?_
  rotate_left
  · rintro w' ⟨s0, s1⟩
    go_simp
    with_reducible rfl
  rotate_left
  · simp only [Act.put, List.setIfInBounds_toArray, List.set_cons_zero, List.set_cons_succ, i64_w, i32_w]
    rfl
  refine take_ (i := 6) (N := some 20) (v := ?_) (a' := ?_) #[true, true, false, true, false, true, true, false, true, false, false, false] rfl rfl (take_ofW HT_.out HW_.out (by kernel_rfl)) (fun _ _ _ h => h) (Or.inl ⟨by rfl, ?_⟩) hHeld ?_ ?_
  rotate_left
  · rintro w' ⟨s0, s1⟩
    go_simp
    with_reducible rfl
  rotate_left
  · simp only [Act.put, List.setIfInBounds_toArray, List.set_cons_zero, List.set_cons_succ, i64_w, i32_w]
    rfl
  refine one_ (i := 2) (N := some 16) #[true, true, true, true, false, true, true, false, true, false, false, false] rfl rfl (one_of HT_.out (by kernel_rfl)) (by decide) (fun K hK => ?_)
  refine goes_ Try.func11 (by kernel_rfl) rfl #[.int .u8 a0_0] (by rfl) rfl rfl (by (try simp only [List.map_toArray, List.map_cons, List.map_nil]); first | done | rfl | (simp only [List.length_drop, List.length_take]; rfl)) ?_
  with_reducible refine (burgageref16_Made.calls a0_0 t200 _ A5.out).mono ?_
  rintro e w14 ⟨rfl, hb⟩
  refine ⟨_, rfl, ?_⟩
  have n0_ := Aside0.mk (blk_below (g := gb197) (o := .cells #[.int .u8 a0_0, .int .u8 a0_1] 37 (0, 0)) (by (with_reducible repeat (first | refine blk_drewN ?_ _ | refine blk_drew ?_ | refine blk_alloc ?_ _)); exact BK197.out) hb)
  have n1_ := Aside0.mk (below_step (by repeat (first | (with_reducible first | exact HB.out | apply below_alloc | apply pw_below_drewN | apply below_drew1 | refine below_set ?_ GE197.out) | exact HB.out)) hb)
  clear BK197
  clear HB
  have BK197 := n0_
  have HB := n1_
  clear n0_ n1_
  (try clear hb)
  (try clear hb2)
  (try clear hk)
  (try clear hi)
  refine hK.out _ _ ⟨(blk_cell BK197.out 0).trans rfl, (blk_cell BK197.out 1).trans rfl⟩ (fun hHeld => ?_)
  clear hK K
  refine norm_ (a' := ?_) ?_ ?_
  rotate_left
  · show Act.put _ (some 16) _ = _
    simp only [Act.put, List.setIfInBounds_toArray, List.set_cons_zero, List.set_cons_succ, i64_w, i32_w]
    rfl
  refine one_ (i := 4) (N := some 18) #[true, true, true, true, true, true, true, false, true, false, false, false] rfl rfl (one_of HT_.out (by kernel_rfl)) (by decide) (fun K hK => ?_)
  refine goes_ Try.func13 (by kernel_rfl) rfl #[.agg #[.int .i64 t200], .int .i64 t199] (by rfl) rfl rfl (by (try simp only [List.map_toArray, List.map_cons, List.map_nil]); first | done | rfl | (simp only [List.length_drop, List.length_take]; rfl)) ?_
  with_reducible refine (clock_Read.calls t200 t199 t201 _ A6.out).mono ?_
  rintro e w15 ⟨rfl, hb⟩
  refine ⟨_, rfl, ?_⟩
  have n0_ := Aside0.mk (blk_below (g := gb197) (o := .cells #[.int .u8 a0_0, .int .u8 a0_1] 37 (0, 0)) (by (with_reducible repeat (first | refine blk_drewN ?_ _ | refine blk_drew ?_ | refine blk_alloc ?_ _)); exact BK197.out) hb)
  have n1_ := Aside0.mk (below_step (by repeat (first | (with_reducible first | exact HB.out | apply below_alloc | apply pw_below_drewN | apply below_drew1 | refine below_set ?_ GE197.out) | exact HB.out)) hb)
  clear BK197
  clear HB
  have BK197 := n0_
  have HB := n1_
  clear n0_ n1_
  (try clear hb)
  (try clear hb2)
  (try clear hk)
  (try clear hi)
  refine hK.out _ _ ⟨(blk_cell BK197.out 0).trans rfl, (blk_cell BK197.out 1).trans rfl⟩ (fun hHeld => ?_)
  clear hK K
  refine norm_ (a' := ?_) ?_ ?_
  rotate_left
  · show Act.put _ (some 18) _ = _
    simp only [Act.put, List.setIfInBounds_toArray, List.set_cons_zero, List.set_cons_succ, i64_w, i32_w]
    rfl
  refine one_ (i := 7) (N := some 21) #[true, true, true, true, true, true, true, true, true, false, false, false] rfl rfl (one_of HT_.out (by kernel_rfl)) (by decide) (fun K hK => ?_)
  refine goes_ Try.func11 (by kernel_rfl) rfl #[.int .u8 a0_1] (by rfl) rfl rfl (by (try simp only [List.map_toArray, List.map_cons, List.map_nil]); first | done | rfl | (simp only [List.length_drop, List.length_take]; rfl)) ?_
  with_reducible refine (burgageref16_Made.calls a0_1 t202 _ A7.out).mono ?_
  rintro e w16 ⟨rfl, hb⟩
  refine ⟨_, rfl, ?_⟩
  have n0_ := Aside0.mk (blk_below (g := gb197) (o := .cells #[.int .u8 a0_0, .int .u8 a0_1] 37 (0, 0)) (by (with_reducible repeat (first | refine blk_drewN ?_ _ | refine blk_drew ?_ | refine blk_alloc ?_ _)); exact BK197.out) hb)
  have n1_ := Aside0.mk (below_step (by repeat (first | (with_reducible first | exact HB.out | apply below_alloc | apply pw_below_drewN | apply below_drew1 | refine below_set ?_ GE197.out) | exact HB.out)) hb)
  clear BK197
  clear HB
  have BK197 := n0_
  have HB := n1_
  clear n0_ n1_
  (try clear hb)
  (try clear hb2)
  (try clear hk)
  (try clear hi)
  refine hK.out _ _ ⟨(blk_cell BK197.out 0).trans rfl, (blk_cell BK197.out 1).trans rfl⟩ (fun hHeld => ?_)
  clear hK K
  refine norm_ (a' := ?_) ?_ ?_
  rotate_left
  · show Act.put _ (some 21) _ = _
    simp only [Act.put, List.setIfInBounds_toArray, List.set_cons_zero, List.set_cons_succ, i64_w, i32_w]
    rfl
  refine one_ (i := 9) (N := some 23) #[true, true, true, true, true, true, true, true, true, true, false, false] rfl rfl (one_of HT_.out (by kernel_rfl)) (by decide) (fun K hK => ?_)
  refine goes_ Try.func13 (by kernel_rfl) rfl #[.agg #[.int .i64 t202], .int .i64 t199] (by rfl) rfl rfl (by (try simp only [List.map_toArray, List.map_cons, List.map_nil]); first | done | rfl | (simp only [List.length_drop, List.length_take]; rfl)) ?_
  with_reducible refine (clock_Read.calls t202 t199 t203 _ A8.out).mono ?_
  rintro e w17 ⟨rfl, hb⟩
  refine ⟨_, rfl, ?_⟩
  have n0_ := Aside0.mk (blk_below (g := gb197) (o := .cells #[.int .u8 a0_0, .int .u8 a0_1] 37 (0, 0)) (by (with_reducible repeat (first | refine blk_drewN ?_ _ | refine blk_drew ?_ | refine blk_alloc ?_ _)); exact BK197.out) hb)
  have n1_ := Aside0.mk (below_step (by repeat (first | (with_reducible first | exact HB.out | apply below_alloc | apply pw_below_drewN | apply below_drew1 | refine below_set ?_ GE197.out) | exact HB.out)) hb)
  clear BK197
  clear HB
  have BK197 := n0_
  have HB := n1_
  clear n0_ n1_
  (try clear hb)
  (try clear hb2)
  (try clear hk)
  (try clear hi)
  refine hK.out _ _ ⟨(blk_cell BK197.out 0).trans rfl, (blk_cell BK197.out 1).trans rfl⟩ (fun hHeld => ?_)
  clear hK K
  refine norm_ (a' := ?_) ?_ ?_
  rotate_left
  · show Act.put _ (some 23) _ = _
    simp only [Act.put, List.setIfInBounds_toArray, List.set_cons_zero, List.set_cons_succ, i64_w, i32_w]
    rfl
  refine pure_ (i := 10) (N := some 7) (v := ?_) (a' := ?_) #[true, true, true, true, true, true, true, true, true, true, true, false] rfl rfl (any_of HT_.out (by kernel_rfl)) (fun _ _ _ h => h) (Or.inl ⟨by rfl, ?_⟩) ?_ ?_
  rotate_left
  · intro w'
    go_simp
    with_reducible rfl
  rotate_left
  · simp only [Act.put, List.setIfInBounds_toArray, List.set_cons_zero, List.set_cons_succ, i64_w, i32_w]
    rfl
  refine pure_ (i := 11) (N := some 8) (v := ?_) (a' := ?_) #[true, true, true, true, true, true, true, true, true, true, true, true] rfl rfl (any_of HT_.out (by kernel_rfl)) (fun _ _ _ h => h) (Or.inl ⟨by rfl, ?_⟩) ?_ ?_
  rotate_left
  · intro w'
    go_simp
    with_reducible rfl
  rotate_left
  · simp only [Act.put, List.setIfInBounds_toArray, List.set_cons_zero, List.set_cons_succ, i64_w, i32_w]
    rfl
  refine done_ (done_of HT_.out (by kernel_rfl)) ?_
  go_upto_region 5 with (first | ((with_reducible refine gate_callee (f := 15) rfl ?_); refine goesL_ (some 25) rfl rfl Try.func15 (by kernel_rfl) rfl #[.int .i64 t201] rfl (by (try simp only [List.map_toArray, List.map_cons, List.map_nil]); first | done | rfl | (simp only [List.length_drop, List.length_take]; rfl)) ?_; (with_reducible refine (burgagelaw16_between.calls t201 t204 t205 _ A9.out).mono ?_); rintro e w18 ⟨rfl, hb⟩; refine ⟨_, rfl, ?_⟩; have n0_ := Aside0.mk (blk_below (g := gb197) (o := .cells #[.int .u8 a0_0, .int .u8 a0_1] 37 (0, 0)) (by (with_reducible repeat (first | refine blk_drewN ?_ _ | refine blk_drew ?_ | refine blk_alloc ?_ _)); exact BK197.out) hb); have n1_ := Aside0.mk (below_step (by repeat (first | (with_reducible first | exact HB.out | apply below_alloc | apply pw_below_drewN | apply below_drew1 | refine below_set ?_ GE197.out) | exact HB.out)) hb); clear BK197; clear HB; have BK197 := n0_; have HB := n1_; clear n0_ n1_; (try clear hb); (try clear hb2); (try clear hk); (try clear hi)) | ((with_reducible refine gate_dst (N := 9) rfl ?_); refine box_event ?hg (N := 9) ?hd (cs := #[.int .i64 0, .int .i64 0]) (t := 30) ?hr ?_; (case hd => rfl); (case hg => rfl); (case hr => first | (go_simp; done) | (go_simp; rfl)); intro gb206 hg w19 hbox hb; have n0_ := Aside0.mk (blk_below (g := gb197) (o := .cells #[.int .u8 a0_0, .int .u8 a0_1] 37 (0, 0)) (by (with_reducible repeat (first | refine blk_drewN ?_ _ | refine blk_drew ?_ | refine blk_alloc ?_ _)); exact BK197.out) hb); have n1_ := Aside0.mk (below_step (by repeat (first | (with_reducible first | exact HB.out | apply below_alloc | apply pw_below_drewN | apply below_drew1 | refine below_set ?_ GE197.out) | exact HB.out)) hb); have n2_ := Aside0.mk (hbox); have n3_ := Aside0.mk ((by rw [hg]; exact (below_size (by repeat (first | (with_reducible first | exact HB.out | apply below_alloc | apply pw_below_drewN | apply below_drew1 | refine below_set ?_ GE197.out) | exact HB.out))) : w.heap.size ≤ gb206)); have n4_ := Aside0.mk ((by rw [hg]; exact (below_size (by repeat (first | (with_reducible first | exact HB.out | apply below_alloc | apply pw_below_drewN | apply below_drew1 | refine below_set ?_ GE197.out) | exact HB.out))) : w.heap.size ≤ gb206)); have n5_ := Aside0.mk ((by rw [hg]; exact Nat.ne_of_lt (blk_lt (g := gb197) (o := .cells #[.int .u8 a0_0, .int .u8 a0_1] 37 (0, 0)) (by (with_reducible repeat (first | refine blk_drewN ?_ _ | refine blk_drew ?_ | refine blk_alloc ?_ _)); exact BK197.out)) : gb197 ≠ gb206)); have n6_ := Aside0.mk ((by rw [hg]; exact Nat.ne_of_gt (blk_lt (g := gb197) (o := .cells #[.int .u8 a0_0, .int .u8 a0_1] 37 (0, 0)) (by (with_reducible repeat (first | refine blk_drewN ?_ _ | refine blk_drew ?_ | refine blk_alloc ?_ _)); exact BK197.out)) : gb206 ≠ gb197)); clear BK197; clear HB; have BK197 := n0_; have HB := n1_; have BK206 := n2_; have GW206 := n3_; have GE206 := n4_; have NB197_206 := n5_; have NB206_197 := n6_; clear n0_ n1_ n2_ n3_ n4_ n5_ n6_; clear hb hbox hg; have hnb20 := NB206_197.out; have hnc20 := NB197_206.out; have hcz21_0 : w19.cell? ⟨gb206, 0, none⟩ = some (.int .i64 0) := (blk_cell BK206.out 0).trans rfl; have hcz21_1 : w19.cell? ⟨gb206, 1, none⟩ = some (.int .i64 0) := (blk_cell BK206.out 1).trans rfl; have hfz21_0 := blk_frozen BK206.out 0; have hfz21_1 := blk_frozen BK206.out 1))
  (try simp only [Act.put, List.setIfInBounds_toArray, List.set_cons_zero, List.set_cons_succ])
  go_cut [47] (fun v47 wc => ∃ (kq : Nat) (x47_9 : Bool), v47 = .bool x47_9 ∧ Aside0 (burgagelaw16_ClockBounds.j0 kq t198 t201 x47_9 a0_0 a0_1 t204 t205 = some r) ∧ Aside0 (kq ≤ k) ∧ Aside0 (wc.heap[gb197]? = some (.cells #[.int .u8 a0_0, .int .u8 a0_1] 37 (0, 0))) ∧ Aside0 (wc.heap[gb206]? = some (.cells #[.int .i64 t204, .int .i64 t205] 30 (0, 0))) ∧ Aside0 (Below w.heap.size w wc))
  case first =>
    have H := HC10.out
    clear HC10
    by_cases c22 : t199 < t204
    · rw [if_pos c22] at H
      have c22b0 : decide (t199 < t204) = true := decide_eq_true c22
      clear c22
      (first | rw [c22b0] | (simp only [i64_w, i32_w]; rw [c22b0]) | skip)
      have H' := Aside0.mk H
      clear H
      have hnb23 := NB206_197.out
      have hnc23 := NB197_206.out
      have hcz24_0 : w19.cell? ⟨gb206, 0, none⟩ = some (.int .i64 0) := (blk_cell BK206.out 0).trans rfl
      have hcz24_1 : w19.cell? ⟨gb206, 1, none⟩ = some (.int .i64 0) := (blk_cell BK206.out 1).trans rfl
      have hfz24_0 := blk_frozen BK206.out 0
      have hfz24_1 := blk_frozen BK206.out 1
      go_wp2
      go_meet
      case rel => exact ⟨_, (true), (by first | rfl | (simp; done) | (simp [*]; done)), H', ⟨by first | omega | exact Nat.le_refl _⟩, ⟨by (with_reducible repeat (first | refine blk_drewN ?_ _ | refine blk_drew ?_ | refine blk_alloc ?_ _)); refine blk_far ?_ NB197_206.out _; (with_reducible repeat (first | refine blk_drewN ?_ _ | refine blk_drew ?_ | refine blk_alloc ?_ _)); refine blk_far ?_ NB197_206.out _; (with_reducible repeat (first | refine blk_drewN ?_ _ | refine blk_drew ?_ | refine blk_alloc ?_ _)); exact BK197.out⟩, ⟨by (with_reducible repeat (first | refine blk_drewN ?_ _ | refine blk_drew ?_ | refine blk_alloc ?_ _)); refine blk_put (cs := #[.int .i64 t204, .int .i64 0]) ?_ 1 _ rfl; (with_reducible repeat (first | refine blk_drewN ?_ _ | refine blk_drew ?_ | refine blk_alloc ?_ _)); refine blk_put (cs := #[.int .i64 0, .int .i64 0]) ?_ 0 _ rfl; (with_reducible repeat (first | refine blk_drewN ?_ _ | refine blk_drew ?_ | refine blk_alloc ?_ _)); exact BK206.out⟩, ⟨by repeat (first | (with_reducible first | exact HB.out | apply below_alloc | apply pw_below_drewN | apply below_drew1 | refine below_set ?_ GE197.out | refine below_set ?_ GE206.out) | exact HB.out)⟩⟩
    · rw [if_neg c22] at H
      have c22b0 : decide (t199 < t204) = false := decide_eq_false c22
      clear c22
      (first | rw [c22b0] | (simp only [i64_w, i32_w]; rw [c22b0]) | skip)
      by_cases c25 : t199 > t205
      · rw [if_pos c25] at H
        have c25b0 : decide (t205 < t199) = true := decide_eq_true c25
        clear c25
        have H' := Aside0.mk H
        clear H
        have hnb26 := NB206_197.out
        have hnc26 := NB197_206.out
        have hcz27_0 : w19.cell? ⟨gb206, 0, none⟩ = some (.int .i64 0) := (blk_cell BK206.out 0).trans rfl
        have hcz27_1 : w19.cell? ⟨gb206, 1, none⟩ = some (.int .i64 0) := (blk_cell BK206.out 1).trans rfl
        have hfz27_0 := blk_frozen BK206.out 0
        have hfz27_1 := blk_frozen BK206.out 1
        go_wp2
        go_meet
        case rel => exact ⟨_, (true), (by first | rfl | (simp; done) | (simp [*]; done)), H', ⟨by first | omega | exact Nat.le_refl _⟩, ⟨by (with_reducible repeat (first | refine blk_drewN ?_ _ | refine blk_drew ?_ | refine blk_alloc ?_ _)); refine blk_far ?_ NB197_206.out _; (with_reducible repeat (first | refine blk_drewN ?_ _ | refine blk_drew ?_ | refine blk_alloc ?_ _)); refine blk_far ?_ NB197_206.out _; (with_reducible repeat (first | refine blk_drewN ?_ _ | refine blk_drew ?_ | refine blk_alloc ?_ _)); exact BK197.out⟩, ⟨by (with_reducible repeat (first | refine blk_drewN ?_ _ | refine blk_drew ?_ | refine blk_alloc ?_ _)); refine blk_put (cs := #[.int .i64 t204, .int .i64 0]) ?_ 1 _ rfl; (with_reducible repeat (first | refine blk_drewN ?_ _ | refine blk_drew ?_ | refine blk_alloc ?_ _)); refine blk_put (cs := #[.int .i64 0, .int .i64 0]) ?_ 0 _ rfl; (with_reducible repeat (first | refine blk_drewN ?_ _ | refine blk_drew ?_ | refine blk_alloc ?_ _)); exact BK206.out⟩, ⟨by repeat (first | (with_reducible first | exact HB.out | apply below_alloc | apply pw_below_drewN | apply below_drew1 | refine below_set ?_ GE197.out | refine below_set ?_ GE206.out) | exact HB.out)⟩⟩
      · rw [if_neg c25] at H
        have c25b0 : decide (t205 < t199) = false := decide_eq_false c25
        clear c25
        by_cases c28 : (wrap64 (t201 - t203)) > 20
        · rw [if_pos c28] at H
          have c28b0 : decide (20 < (wrap64 (t201 - t203))) = true := decide_eq_true c28
          clear c28
          have H' := Aside0.mk H
          clear H
          have hnb29 := NB206_197.out
          have hnc29 := NB197_206.out
          have hcz30_0 : w19.cell? ⟨gb206, 0, none⟩ = some (.int .i64 0) := (blk_cell BK206.out 0).trans rfl
          have hcz30_1 : w19.cell? ⟨gb206, 1, none⟩ = some (.int .i64 0) := (blk_cell BK206.out 1).trans rfl
          have hfz30_0 := blk_frozen BK206.out 0
          have hfz30_1 := blk_frozen BK206.out 1
          go_wp2
          go_meet
          case rel => exact ⟨_, (true), (by first | rfl | (simp; done) | (simp [*]; done)), H', ⟨by first | omega | exact Nat.le_refl _⟩, ⟨by (with_reducible repeat (first | refine blk_drewN ?_ _ | refine blk_drew ?_ | refine blk_alloc ?_ _)); refine blk_far ?_ NB197_206.out _; (with_reducible repeat (first | refine blk_drewN ?_ _ | refine blk_drew ?_ | refine blk_alloc ?_ _)); refine blk_far ?_ NB197_206.out _; (with_reducible repeat (first | refine blk_drewN ?_ _ | refine blk_drew ?_ | refine blk_alloc ?_ _)); exact BK197.out⟩, ⟨by (with_reducible repeat (first | refine blk_drewN ?_ _ | refine blk_drew ?_ | refine blk_alloc ?_ _)); refine blk_put (cs := #[.int .i64 t204, .int .i64 0]) ?_ 1 _ rfl; (with_reducible repeat (first | refine blk_drewN ?_ _ | refine blk_drew ?_ | refine blk_alloc ?_ _)); refine blk_put (cs := #[.int .i64 0, .int .i64 0]) ?_ 0 _ rfl; (with_reducible repeat (first | refine blk_drewN ?_ _ | refine blk_drew ?_ | refine blk_alloc ?_ _)); exact BK206.out⟩, ⟨by repeat (first | (with_reducible first | exact HB.out | apply below_alloc | apply pw_below_drewN | apply below_drew1 | refine below_set ?_ GE197.out | refine below_set ?_ GE206.out) | exact HB.out)⟩⟩
        · rw [if_neg c28] at H
          have c28b0 : decide (20 < (wrap64 (t201 - t203))) = false := decide_eq_false c28
          clear c28
          have H' := Aside0.mk H
          clear H
          have hnb31 := NB206_197.out
          have hnc31 := NB197_206.out
          have hcz32_0 : w19.cell? ⟨gb206, 0, none⟩ = some (.int .i64 0) := (blk_cell BK206.out 0).trans rfl
          have hcz32_1 : w19.cell? ⟨gb206, 1, none⟩ = some (.int .i64 0) := (blk_cell BK206.out 1).trans rfl
          have hfz32_0 := blk_frozen BK206.out 0
          have hfz32_1 := blk_frozen BK206.out 1
          go_wp2
          go_meet
          case rel => exact ⟨_, (decide ((wrap64 (t203 - t201)) > 20)), (by first | rfl | (simp; done) | (simp [*]; done)), H', ⟨by first | omega | exact Nat.le_refl _⟩, ⟨by (with_reducible repeat (first | refine blk_drewN ?_ _ | refine blk_drew ?_ | refine blk_alloc ?_ _)); refine blk_far ?_ NB197_206.out _; (with_reducible repeat (first | refine blk_drewN ?_ _ | refine blk_drew ?_ | refine blk_alloc ?_ _)); refine blk_far ?_ NB197_206.out _; (with_reducible repeat (first | refine blk_drewN ?_ _ | refine blk_drew ?_ | refine blk_alloc ?_ _)); exact BK197.out⟩, ⟨by (with_reducible repeat (first | refine blk_drewN ?_ _ | refine blk_drew ?_ | refine blk_alloc ?_ _)); refine blk_put (cs := #[.int .i64 t204, .int .i64 0]) ?_ 1 _ rfl; (with_reducible repeat (first | refine blk_drewN ?_ _ | refine blk_drew ?_ | refine blk_alloc ?_ _)); refine blk_put (cs := #[.int .i64 0, .int .i64 0]) ?_ 0 _ rfl; (with_reducible repeat (first | refine blk_drewN ?_ _ | refine blk_drew ?_ | refine blk_alloc ?_ _)); exact BK206.out⟩, ⟨by repeat (first | (with_reducible first | exact HB.out | apply below_alloc | apply pw_below_drewN | apply below_drew1 | refine below_set ?_ GE197.out | refine below_set ?_ GE206.out) | exact HB.out)⟩⟩
  case rest =>
    clear HC10
    try clear c1
    try clear c2
    try clear p2
    try clear c3
    try clear p6
    try clear c7
    try clear c10
    try clear c11
    try clear c12
    try clear c13
    try clear c15
    try clear c20
    try clear c22
    try clear c22b0
    try clear c23
    try clear c25
    try clear c25b0
    try clear c26
    try clear c28
    try clear c28b0
    try clear c29
    try clear c31
    try clear hcz21_0
    try clear hcz21_1
    try clear hcz24_0
    try clear hcz24_1
    try clear hcz27_0
    try clear hcz27_1
    try clear hcz30_0
    try clear hcz30_1
    try clear hcz32_0
    try clear hcz32_1
    try clear hfz21_0
    try clear hfz21_1
    try clear hfz24_0
    try clear hfz24_1
    try clear hfz27_0
    try clear hfz27_1
    try clear hfz30_0
    try clear hfz30_1
    try clear hfz32_0
    try clear hfz32_1
    obtain ⟨kq, x47_9, rfl, HA, HJ9, BK197, BK206, HB⟩ := hcut
    cases kq with
    | zero => exact absurd HA.out (by simp [burgagelaw16_ClockBounds.j0])
    | succ kj9 =>
      have H := HA.out
      clear HA
      simp only [burgagelaw16_ClockBounds.j0] at H
      by_cases c33 : x47_9 = true
      · subst c33
        have H1 : (some false) = some r := by rw [if_pos rfl] at H; exact H
        clear H
        have H := H1
        clear H1
        exact absurd ((Option.some.inj H).trans HLAW.out) (by decide)
      · replace c33 := Bool.eq_false_iff.mpr c33
        subst c33
        have H1 : ((clock_Read.f (wrap64 (t201 - (wrap64 (t204 + (Int.tmod (wrap64 (a0_1)) 21))))) (wrap64 (t204 + (Int.tmod (wrap64 (a0_1)) 21)))).bind fun t207 => (if t207 = t201 then ((clock_Valid.f (wrap64 (t201 - (wrap64 (t204 + (Int.tmod (wrap64 (a0_1)) 21)))))).bind fun t208 => (if t208 = true then (if (wrap64 (t204 + (Int.tmod (wrap64 (a0_1)) 21))) ≤ t205 then (if (wrap64 (t205 - t204)) = 20 then (some t198) else (some false)) else (some false)) else (some false))) else (some false))) = some r := by rw [if_neg (show ¬ (false = true) by decide)] at H; exact H
        clear H
        have H := H1
        clear H1
        replace H := Option.bind_eq_some_iff.mp H
        obtain ⟨t207, A340, H⟩ := H
        replace H : (if t207 = t201 then ((clock_Valid.f (wrap64 (t201 - (wrap64 (t204 + (Int.tmod (wrap64 (a0_1)) 21)))))).bind fun t208 => (if t208 = true then (if (wrap64 (t204 + (Int.tmod (wrap64 (a0_1)) 21))) ≤ t205 then (if (wrap64 (t205 - t204)) = 20 then (some t198) else (some false)) else (some false)) else (some false))) else (some false)) = some r := H
        have A34 := Aside0.mk A340
        clear A340
        by_cases c35 : t207 = t201
        · rw [if_pos c35] at H
          have c35b0 : (t207 == t201) = true := beq_iff_eq.mpr c35
          have c35b1 : (t207 != t201) = false := bne_eq_false_iff_eq.mpr c35
          clear c35
          replace H := Option.bind_eq_some_iff.mp H
          obtain ⟨t208, A360, H⟩ := H
          replace H : (if t208 = true then (if (wrap64 (t204 + (Int.tmod (wrap64 (a0_1)) 21))) ≤ t205 then (if (wrap64 (t205 - t204)) = 20 then (some t198) else (some false)) else (some false)) else (some false)) = some r := H
          have A36 := Aside0.mk A360
          clear A360
          by_cases c37 : t208 = true
          · subst c37
            have H1 : (if (wrap64 (t204 + (Int.tmod (wrap64 (a0_1)) 21))) ≤ t205 then (if (wrap64 (t205 - t204)) = 20 then (some t198) else (some false)) else (some false)) = some r := by rw [if_pos rfl] at H; exact H
            clear H
            have H := H1
            clear H1
            by_cases c38 : (wrap64 (t204 + (Int.tmod (wrap64 (a0_1)) 21))) ≤ t205
            · rw [if_pos c38] at H
              have c38b0 : decide ((wrap64 (t204 + (Int.tmod (wrap64 (a0_1)) 21))) ≤ t205) = true := decide_eq_true c38
              clear c38
              by_cases c39 : (wrap64 (t205 - t204)) = 20
              · rw [if_pos c39] at H
                have c39b0 : ((wrap64 (t205 - t204)) == 20) = true := beq_iff_eq.mpr c39
                have c39b1 : ((wrap64 (t205 - t204)) != 20) = false := bne_eq_false_iff_eq.mpr c39
                clear c39
                clear HLAW
                obtain rfl := Option.some.inj H
                have hnb40 := NB206_197.out
                have hnc40 := NB197_206.out
                have hcz41_0 : wc.cell? ⟨gb206, 0, none⟩ = some (.int .i64 t204) := (blk_cell BK206.out 0).trans rfl
                have hcz41_1 : wc.cell? ⟨gb206, 1, none⟩ = some (.int .i64 t205) := (blk_cell BK206.out 1).trans rfl
                have hfz41_0 := blk_frozen BK206.out 0
                have hfz41_1 := blk_frozen BK206.out 1
                have hcz42_0 : wc.cell? ⟨gb197, 0, none⟩ = some (.int .u8 a0_0) := (blk_cell BK197.out 0).trans rfl
                have hcz42_1 : wc.cell? ⟨gb197, 1, none⟩ = some (.int .u8 a0_1) := (blk_cell BK197.out 1).trans rfl
                have hfz42_0 := blk_frozen BK197.out 0
                have hfz42_1 := blk_frozen BK197.out 1
                go_wp2_with (first | ((with_reducible refine gate_callee (f := 13) rfl ?_); refine goesL_ (some 60) rfl rfl Try.func13 (by kernel_rfl) rfl #[.agg #[.int .i64 (wrap64 (t201 - (wrap64 (t204 + (Int.tmod (wrap64 (a0_1)) 21)))))], .int .i64 (wrap64 (t204 + (Int.tmod (wrap64 (a0_1)) 21)))] rfl (by (try simp only [List.map_toArray, List.map_cons, List.map_nil]); first | done | rfl | (simp only [List.length_drop, List.length_take]; rfl)) ?_; (with_reducible refine (clock_Read.calls (wrap64 (t201 - (wrap64 (t204 + (Int.tmod (wrap64 (a0_1)) 21))))) (wrap64 (t204 + (Int.tmod (wrap64 (a0_1)) 21))) t207 _ A34.out).mono ?_); rintro e w43 ⟨rfl, hb⟩; refine ⟨_, rfl, ?_⟩; have n0_ := Aside0.mk (blk_below (g := gb197) (o := .cells #[.int .u8 a0_0, .int .u8 a0_1] 37 (0, 0)) (by (with_reducible repeat (first | refine blk_drewN ?_ _ | refine blk_drew ?_ | refine blk_alloc ?_ _)); exact BK197.out) hb); have n1_ := Aside0.mk (blk_below (g := gb206) (o := .cells #[.int .i64 t204, .int .i64 t205] 30 (0, 0)) (by (with_reducible repeat (first | refine blk_drewN ?_ _ | refine blk_drew ?_ | refine blk_alloc ?_ _)); exact BK206.out) hb); have n2_ := Aside0.mk (below_step (by repeat (first | (with_reducible first | exact HB.out | apply below_alloc | apply pw_below_drewN | apply below_drew1 | refine below_set ?_ GE197.out | refine below_set ?_ GE206.out) | exact HB.out)) hb); clear BK197; clear BK206; clear HB; have BK197 := n0_; have BK206 := n1_; have HB := n2_; clear n0_ n1_ n2_; (try clear hb); (try clear hb2); (try clear hk); (try clear hi)) | (go_at_call 24; (with_reducible refine (clock_Valid.calls (wrap64 (t201 - (wrap64 (t204 + (Int.tmod (wrap64 (a0_1)) 21))))) true _ A36.out).mono ?_); rintro e w44 ⟨rfl, hb⟩; have n0_ := Aside0.mk (blk_below (g := gb197) (o := .cells #[.int .u8 a0_0, .int .u8 a0_1] 37 (0, 0)) (by (with_reducible repeat (first | refine blk_drewN ?_ _ | refine blk_drew ?_ | refine blk_alloc ?_ _)); exact BK197.out) hb); have n1_ := Aside0.mk (blk_below (g := gb206) (o := .cells #[.int .i64 t204, .int .i64 t205] 30 (0, 0)) (by (with_reducible repeat (first | refine blk_drewN ?_ _ | refine blk_drew ?_ | refine blk_alloc ?_ _)); exact BK206.out) hb); have n2_ := Aside0.mk (below_step (by repeat (first | (with_reducible first | exact HB.out | apply below_alloc | apply pw_below_drewN | apply below_drew1 | refine below_set ?_ GE197.out | refine below_set ?_ GE206.out) | exact HB.out)) hb); clear BK197; clear BK206; clear HB; have BK197 := n0_; have BK206 := n1_; have HB := n2_; clear n0_ n1_ n2_; (try clear hb); (try clear hb2); (try clear hk); (try clear hi); have hcz45_0 : w44.cell? ⟨gb206, 0, none⟩ = some (.int .i64 t204) := (blk_cell BK206.out 0).trans rfl; have hcz45_1 : w44.cell? ⟨gb206, 1, none⟩ = some (.int .i64 t205) := (blk_cell BK206.out 1).trans rfl; have hfz45_0 := blk_frozen BK206.out 0; have hfz45_1 := blk_frozen BK206.out 1))
                go_ret
                exact ⟨by first | rfl | (simp [errW_none, errW_some] <;> rfl) | (simp [*, errW_none, errW_some] <;> rfl) | (exfalso; simp_all only [aside0_iff, Option.some.injEq, reduceCtorEq]), by repeat (first | (with_reducible first | exact HB.out | apply below_alloc | apply pw_below_drewN | apply below_drew1 | refine below_set ?_ GE197.out | refine below_set ?_ GE206.out) | exact HB.out)⟩
              · rw [if_neg c39] at H
                have c39b0 : ((wrap64 (t205 - t204)) == 20) = false := beq_eq_false_iff_ne.mpr c39
                have c39b1 : ((wrap64 (t205 - t204)) != 20) = true := bne_iff_ne.mpr c39
                exact absurd ((Option.some.inj H).trans HLAW.out) (by decide)
            · rw [if_neg c38] at H
              have c38b0 : decide ((wrap64 (t204 + (Int.tmod (wrap64 (a0_1)) 21))) ≤ t205) = false := decide_eq_false c38
              clear c38
              exact absurd ((Option.some.inj H).trans HLAW.out) (by decide)
          · replace c37 := Bool.eq_false_iff.mpr c37
            subst c37
            have H1 : (some false) = some r := by rw [if_neg (show ¬ (false = true) by decide)] at H; exact H
            clear H
            have H := H1
            clear H1
            exact absurd ((Option.some.inj H).trans HLAW.out) (by decide)
        · rw [if_neg c35] at H
          have c35b0 : (t207 == t201) = false := beq_eq_false_iff_ne.mpr c35
          have c35b1 : (t207 != t201) = true := bne_iff_ne.mpr c35
          exact absurd ((Option.some.inj H).trans HLAW.out) (by decide)

/-- THE ONE PURE STATEMENT of burgagelaw16_ClockBounds: yours. -/
def burgagelaw16_ClockBounds.Pure : Prop := ∀ (a0_0 : Int) (a0_1 : Int) (a1 : Int), (((Lit.int .u8 a0_0).wf = true) ∧ ((Lit.int .u8 a0_1).wf = true)) → ((Lit.int .i64 a1).wf = true) → ∃ k, burgagelaw16_ClockBounds.f k a0_0 a0_1 a1 = some true

end Go.Proofs.Ytmhpclmfacejhaa.PC
