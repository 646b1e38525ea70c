/- Plain Lean functions with the answers of the Go functions that these laws reach, and proofs that the calls come to them; written by this session's program. -/
import Derived.Test.YtfhjbhbmbnnimaaPEx0
import Derived.Test.YtfhjbhbmbnnimaaPEx1
import Derived.Test.YtfhjbhbmbnnimaaPEx8
import Derived.Test.YtfhjbhbmbnnimaaPEx9
import Derived.Test.YtfhjbhbmbnnimaaPEx11
import Derived.Test.YtfhjbhbmbnnimaaPEx12
import Derived.Test.YtfhjbhbmbnnimaaPEx15
namespace Go.Proofs.Ytfhjbhbmbnnimaa.PE
open Go.RowKit Go.Proofs.YtfhjbhbmbnnimaaW.PrintWords Go.Proofs.YtfhjbhbmbnnimaaW.PrintLast Go.Proofs.YtfhjbhbmbnnimaaW.PrintMore
attribute [local go_sem] max2_int min2_int max_two min_two max_three min_three max_four min_four   -- for this text's walks alone
set_option linter.unusedVariables false
set_option linter.unusedSimpArgs false

attribute [local go_sem high] eqA32
/-! ### l08_ExtentCuts: function 5 -/
mutual
def l08_ExtentCuts.j0 : Nat → Int → Bool → List (S58) → Bool → List (S58) → Int → Option (Bool)
 | 0, _, _, _, _, _, _ => none
 | k + 1, x1, x5, x6, x27, x335000, x335001 => if x27 = true then (some false) else ((r08_Each.f k x6).bind fun t336 => ((r08_Each.f k x335000).bind fun t339 => (if (t339.length : Int) = (wrap64 (x1)) then (l08_ExtentCuts.l0 k x1 x5 x6 t336 t339 0 x335000 x335001) else (some false))))
def l08_ExtentCuts.l0 : Nat → Int → Bool → List (S58) → List (S32) → List (S32) → Int → List (S58) → Int → Option (Bool)
 | 0, _, _, _, _, _, _, _, _ => none
 | k + 1, x1, x5, x6, x8, x9, x10, x335000, x335001 => if x10 < (x9.length : Int) then (if x10 < (x8.length : Int) then (if 0 ≤ x10 then (if (!(((rd_T32 x9 x10).f0) == ((rd_T32 x8 x10).f0)) || (!(((rd_T32 x9 x10).f1) == ((rd_T32 x8 x10).f1)))) = true then (some false) else (l08_ExtentCuts.l0 k x1 x5 x6 x8 x9 (wrap64 (x10 + 1)) x335000 x335001)) else (none)) else (if 0 ≤ x10 then (if (!(((rd_T32 x9 x10).f0) == 0) || (!(((rd_T32 x9 x10).f1) == 0))) = true then (some false) else (l08_ExtentCuts.l0 k x1 x5 x6 x8 x9 (wrap64 (x10 + 1)) x335000 x335001)) else (none))) else ((l08_cut.f x335000 (x8.length : Int)).bind fun bt342 => (if (wrap64 (x1)) < (x8.length : Int) then (some x5) else ((l08_same.f k bt342.1 bt342.2 x6 0).bind fun t347 => (if t347 = true then (some x5) else (some false)))))
end
def l08_ExtentCuts.f (k : Nat) (l0 : List (S37)) (a1 : Int) : Option (Bool) := (l08_sanity.f).bind fun t326 => ((r08_Made.f k l0).bind fun t327 => ((l08_cut.f t327 (wrap64 (a1))).bind fun bt330 => (if bt330.2 = 0 then ((l08_sane.f k bt330.1 bt330.2).bind fun t335 => (l08_ExtentCuts.j0 k a1 t326 t327 (!t335) bt330.1 bt330.2)) else (l08_ExtentCuts.j0 k a1 t326 t327 true bt330.1 bt330.2))))
theorem l08_ExtentCuts.mono_l : ∀ k, (∀ y0 y1 y2 y3 y4 y5, LeO (l08_ExtentCuts.j0 k y0 y1 y2 y3 y4 y5) (l08_ExtentCuts.j0 (k + 1) y0 y1 y2 y3 y4 y5)) ∧ (∀ y0 y1 y2 y3 y4 y5 y6 y7, LeO (l08_ExtentCuts.l0 k y0 y1 y2 y3 y4 y5 y6 y7) (l08_ExtentCuts.l0 (k + 1) y0 y1 y2 y3 y4 y5 y6 y7))
 | 0 => ⟨fun _ _ _ _ _ _ r h => by simp [l08_ExtentCuts.j0] at h, fun _ _ _ _ _ _ _ _ r h => by simp [l08_ExtentCuts.l0] at h⟩
 | k + 1 => by
  obtain ⟨ih0, ih1⟩ := l08_ExtentCuts.mono_l k
  refine ⟨?_, ?_⟩
  ·intro y0 y1 y2 y3 y4 y5
   unfold l08_ExtentCuts.j0
   repeat' first
   | (with_reducible exact ih0 _ _ _ _ _ _)
   | (with_reducible exact ih1 _ _ _ _ _ _ _ _)
   | (with_reducible exact l08_same.mono _ _ _ _ _)
   | (with_reducible exact l08_sane.mono _ _ _)
   | (with_reducible exact r08_Each.mono _ _)
   | (with_reducible exact r08_Made.mono _ _)
   | (with_reducible exact LeO.refl _)
   | (with_reducible exact LeO.none _)
   | (with_reducible refine LeO.ite ?_ ?_)
   | (with_reducible refine LeO.bind ?_ (fun _ => ?_))
   | exact ih0 _ _ _ _ _ _
   | exact ih1 _ _ _ _ _ _ _ _
   | exact l08_same.mono _ _ _ _ _
   | exact l08_sane.mono _ _ _
   | exact r08_Each.mono _ _
   | exact r08_Made.mono _ _
   | exact LeO.none _
   | refine LeO.ite ?_ ?_
   | refine LeO.bind ?_ (fun _ => ?_)
  ·intro y0 y1 y2 y3 y4 y5 y6 y7
   unfold l08_ExtentCuts.l0
   repeat' first
   | (with_reducible exact ih0 _ _ _ _ _ _)
   | (with_reducible exact ih1 _ _ _ _ _ _ _ _)
   | (with_reducible exact l08_same.mono _ _ _ _ _)
   | (with_reducible exact l08_sane.mono _ _ _)
   | (with_reducible exact r08_Each.mono _ _)
   | (with_reducible exact r08_Made.mono _ _)
   | (with_reducible exact LeO.refl _)
   | (with_reducible exact LeO.none _)
   | (with_reducible refine LeO.ite ?_ ?_)
   | (with_reducible refine LeO.bind ?_ (fun _ => ?_))
   | exact ih0 _ _ _ _ _ _
   | exact ih1 _ _ _ _ _ _ _ _
   | exact l08_same.mono _ _ _ _ _
   | exact l08_sane.mono _ _ _
   | exact r08_Each.mono _ _
   | exact r08_Made.mono _ _
   | exact LeO.none _
   | refine LeO.ite ?_ ?_
   | refine LeO.bind ?_ (fun _ => ?_)
theorem l08_ExtentCuts.mono : ∀ a0 a1 k, LeO (l08_ExtentCuts.f k a0 a1) (l08_ExtentCuts.f (k + 1) a0 a1) := by
 intro a0 a1 k
 obtain ⟨ih0, ih1⟩ := l08_ExtentCuts.mono_l k
 unfold l08_ExtentCuts.f
 repeat' first
   | (with_reducible exact ih0 _ _ _ _ _ _)
   | (with_reducible exact ih1 _ _ _ _ _ _ _ _)
   | (with_reducible exact l08_same.mono _ _ _ _ _)
   | (with_reducible exact l08_sane.mono _ _ _)
   | (with_reducible exact r08_Each.mono _ _)
   | (with_reducible exact r08_Made.mono _ _)
   | (with_reducible exact LeO.refl _)
   | (with_reducible exact LeO.none _)
   | (with_reducible refine LeO.ite ?_ ?_)
   | (with_reducible refine LeO.bind ?_ (fun _ => ?_))
   | exact ih0 _ _ _ _ _ _
   | exact ih1 _ _ _ _ _ _ _ _
   | exact l08_same.mono _ _ _ _ _
   | exact l08_sane.mono _ _ _
   | exact r08_Each.mono _ _
   | exact r08_Made.mono _ _
   | exact LeO.none _
   | refine LeO.ite ?_ ?_
   | refine LeO.bind ?_ (fun _ => ?_)
set_option maxHeartbeats 8000000 in
set_option maxRecDepth 100000 in
theorem l08_ExtentCuts.calls (k : Nat) (A0 : Option Addr) (c0 : Nat) (l0 : List (S37)) (a1 : Int) (r : Bool) (w : World) (hr0 : Kd.C k37 w A0 l0.length l0) (hc0 : l0.length ≤ c0) (hr : r = true) (h : l08_ExtentCuts.f k l0 a1 = some r) :
  Calls Try.prog 5 #[.slice A0 l0.length c0, .int .u8 a1] w fun e w' => e = .returned (.bool r) ∧ Below w.heap.size w w' := by
 have hu40 := Try.underlying40
 have hu32 := Try.underlying32
 have HR0 := Aside0.mk hr0
 have HC0 := Aside0.mk hc0
 clear hr0 hc0
 have HB := Aside0.mk (Below.refl w.heap.size w)
 have HLAW := Aside0.mk hr
 clear hr
 have H : ((l08_sanity.f).bind fun t326 => ((r08_Made.f k l0).bind fun t327 => ((l08_cut.f t327 (wrap64 (a1))).bind fun bt330 => (if bt330.2 = 0 then ((l08_sane.f k bt330.1 bt330.2).bind fun t335 => (l08_ExtentCuts.j0 k a1 t326 t327 (!t335) bt330.1 bt330.2)) else (l08_ExtentCuts.j0 k a1 t326 t327 true bt330.1 bt330.2))))) = some r := h
 clear h
 replace H := Option.bind_eq_some_iff.mp H
 obtain ⟨t326, A30, H⟩ := H
 replace H : ((r08_Made.f k l0).bind fun t327 => ((l08_cut.f t327 (wrap64 (a1))).bind fun bt330 => (if bt330.2 = 0 then ((l08_sane.f k bt330.1 bt330.2).bind fun t335 => (l08_ExtentCuts.j0 k a1 t326 t327 (!t335) bt330.1 bt330.2)) else (l08_ExtentCuts.j0 k a1 t326 t327 true bt330.1 bt330.2)))) = some r := H
 have A3 := Aside0.mk A30
 clear A30
 replace H := Option.bind_eq_some_iff.mp H
 obtain ⟨t327, A40, H⟩ := H
 replace H : ((l08_cut.f t327 (wrap64 (a1))).bind fun bt330 => (if bt330.2 = 0 then ((l08_sane.f k bt330.1 bt330.2).bind fun t335 => (l08_ExtentCuts.j0 k a1 t326 t327 (!t335) bt330.1 bt330.2)) else (l08_ExtentCuts.j0 k a1 t326 t327 true bt330.1 bt330.2))) = some r := H
 have A4 := Aside0.mk A40
 clear A40
 replace H := Option.bind_eq_some_iff.mp H
 obtain ⟨⟨t330, t333⟩, A50, H⟩ := H
 replace H : (if t333 = 0 then ((l08_sane.f k t330 t333).bind fun t335 => (l08_ExtentCuts.j0 k a1 t326 t327 (!t335) t330 t333)) else (l08_ExtentCuts.j0 k a1 t326 t327 true t330 t333)) = some r := H
 have A5 := Aside0.mk A50
 clear A50
 have HC6 := Aside0.mk H
 clear H
 go_enter Try.func5, Try.ntmps5
 go_upto_region 4 with (first | ((with_reducible refine gate_callee (f := 10) rfl ?_); refine goesL_ (some 13) rfl rfl Try.func10 (by kernel_rfl) rfl #[] rfl (by (try simp only [List.map_toArray, List.map_cons, List.map_nil]); first | done | rfl | (simp only [List.length_drop, List.length_take]; rfl)) ?_; (with_reducible refine (l08_sanity.calls  t326 _ A3.out).mono ?_); rintro e w7 ⟨rfl, hb⟩; refine ⟨_, rfl, ?_⟩; have n0_ := Aside0.mk (below_step (by repeat (first | (with_reducible first | exact HB.out | apply below_alloc | apply pw_below_drewN | apply below_drew1) | exact HB.out)) hb); clear HB; have HB := n0_; clear n0_; (try clear hb); (try clear hb2); (try clear hk); (try clear hi)) | ((with_reducible refine gate_callee (f := 11) rfl ?_); refine goesL_ (some 15) rfl rfl Try.func11 (by kernel_rfl) rfl #[.slice A0 l0.length c0] rfl (by (try simp only [List.map_toArray, List.map_cons, List.map_nil]); first | done | rfl | (simp only [List.length_drop, List.length_take]; rfl)) ?_; (with_reducible refine (r08_Made.calls k _ _ l0 t327 _ ?side1 ?side2 A4.out).mono ?_); (case side1 => repeat (first | exact (Kd.C_below HR0.out HB.out) | (with_reducible refine Kd.C_alloc ?_ _) | (with_reducible refine Kd.C_drewN ?_ _) | (with_reducible refine Kd.C_drew ?_))); (case side2 => exact HC0.out); rintro e w8 ⟨v328, rfl, ho0, hb⟩; refine ⟨_, rfl, ?_⟩; have n0_ := Aside0.mk (Kd.R_lower ho0 (below_size (by repeat (first | (with_reducible first | exact HB.out | apply below_alloc | apply pw_below_drewN | apply below_drew1) | exact HB.out)))); have n1_ := Aside0.mk (below_step (by repeat (first | (with_reducible first | exact HB.out | apply below_alloc | apply pw_below_drewN | apply below_drew1) | exact HB.out)) hb); clear HB; have HO329 := n0_; have HB := n1_; clear n0_ n1_; (try clear hb); (try clear hb2); (try clear hk); (try clear hi); (try clear ho0); obtain ⟨Ao9, co9, eo9⟩ := Kd.R_slice HO329.out; subst eo9) | ((with_reducible refine gate_callee (f := 23) rfl ?_); refine goesL_ (some 19) rfl rfl Try.func23 (by kernel_rfl) rfl #[.slice Ao9 t327.length co9, .int .i64 (wrap64 (a1))] rfl (by (try simp only [List.map_toArray, List.map_cons, List.map_nil]); first | done | rfl | (simp only [List.length_drop, List.length_take]; rfl)) ?_; (with_reducible refine (l08_cut.calls _ _ t327 (wrap64 (a1)) t330 t333 _ ?side1 ?side2 A5.out).mono ?_); (case side1 => repeat (first | exact (Kd.R_reads' HO329.out).2.2 | (with_reducible refine Kd.C_alloc ?_ _) | (with_reducible refine Kd.C_drewN ?_ _) | (with_reducible refine Kd.C_drew ?_))); (case side2 => exact (Kd.R_reads' HO329.out).2.1); rintro e w10 ⟨v331, rfl, ho0, hb⟩; refine ⟨_, rfl, ?_⟩; have n0_ := Aside0.mk (Kd.R_elder' (by (with_reducible repeat (first | apply Kd.R_alloc | apply Kd.R_drewN | apply Kd.R_drew)); exact HO329.out) (Kd.R_base ho0) hb); have n1_ := Aside0.mk (Kd.R_lower (Kd.R_new' ho0 (Kd.R_lt (by (with_reducible repeat (first | apply Kd.R_alloc | apply Kd.R_drewN | apply Kd.R_drew)); exact HO329.out))) (below_size (by repeat (first | (with_reducible first | exact HB.out | apply below_alloc | apply pw_below_drewN | apply below_drew1) | exact HB.out)))); have n2_ := Aside0.mk (below_step (by repeat (first | (with_reducible first | exact HB.out | apply below_alloc | apply pw_below_drewN | apply below_drew1) | exact HB.out)) hb); clear HO329; clear HB; have HO329 := n0_; have HO332 := n1_; have HB := n2_; clear n0_ n1_ n2_; (try clear hb); (try clear hb2); (try clear hk); (try clear hi); (try clear ho0)) | ((with_reducible refine gate_dst (N := 7) rfl ?_); refine box_event ?hg (N := 7) ?hd (cs := #[.slice none 0 0, .int .i64 0]) (t := 40) ?hr ?_; (case hd => rfl); (case hg => rfl); (case hr => first | (go_simp; done) | (go_simp; rfl)); intro gb334 hg w11 hbox hb; have n0_ := Aside0.mk (Kd.R_below (by (with_reducible repeat (first | apply Kd.R_alloc | apply Kd.R_drewN | apply Kd.R_drew)); exact HO329.out) hb); have n1_ := Aside0.mk (Kd.R_below (by (with_reducible repeat (first | apply Kd.R_alloc | apply Kd.R_drewN | apply Kd.R_drew)); exact HO332.out) hb); have n2_ := Aside0.mk (below_step (by repeat (first | (with_reducible first | exact HB.out | apply below_alloc | apply pw_below_drewN | apply below_drew1) | exact HB.out)) hb); have n3_ := Aside0.mk (hbox); have n4_ := Aside0.mk ((by rw [hg]; exact (below_size (by repeat (first | (with_reducible first | exact HB.out | apply below_alloc | apply pw_below_drewN | apply below_drew1) | exact HB.out))) : w.heap.size ≤ gb334)); have n5_ := Aside0.mk ((by rw [hg]; exact (below_size (by repeat (first | (with_reducible first | exact HB.out | apply below_alloc | apply pw_below_drewN | apply below_drew1) | exact HB.out))) : w.heap.size ≤ gb334)); clear HO329; clear HO332; clear HB; have HO329 := n0_; have HO332 := n1_; have HB := n2_; have BK334 := n3_; have GW334 := n4_; have GE334 := n5_; clear n0_ n1_ n2_ n3_ n4_ n5_; clear hb hbox hg; obtain ⟨Ao12, co12, eo12⟩ := Kd.R_slice HO332.out; subst eo12; have hcz13_0 : w11.cell? ⟨gb334, 0, none⟩ = some (.slice none 0 0) := (blk_cell BK334.out 0).trans rfl; have hcz13_1 : w11.cell? ⟨gb334, 1, none⟩ = some (.int .i64 0) := (blk_cell BK334.out 1).trans rfl; have hfz13_0 := blk_frozen BK334.out 0; have hfz13_1 := blk_frozen BK334.out 1))
 (try simp only [Act.put, List.setIfInBounds_toArray, List.set_cons_zero, List.set_cons_succ])
 go_cut [27] (fun v27 wc => ∃ (kq : Nat) (x27_5 : Bool), v27 = .bool x27_5 ∧ Aside0 (l08_ExtentCuts.j0 kq a1 t326 t327 x27_5 t330 t333 = some r) ∧ Aside0 (kq ≤ k) ∧ Aside0 (Kd.R k58 58 wc w.heap.size (fun k_ => some k_ ≠ ((.slice Ao12 t330.length co12) : Value).ownBlock) (.slice Ao9 t327.length co9) t327) ∧ Aside0 (Kd.R k58 58 wc w.heap.size (fun k_ => some k_ ≠ ((.slice Ao9 t327.length co9) : Value).ownBlock) (.slice Ao12 t330.length co12) t330) ∧ Aside0 (wc.heap[gb334]? = some (.cells #[(.slice Ao12 t330.length co12), .int .i64 t333] 40 (0, 0))) ∧ Aside0 (Below w.heap.size w wc))
 case first =>
  have H := HC6.out
  clear HC6
  by_cases c14 : t333 = 0
  ·rw [if_pos c14] at H
   have c14b0 : (t333 == 0) = true := beq_iff_eq.mpr c14
   have c14b1 : (t333 != 0) = false := bne_eq_false_iff_eq.mpr c14
   clear c14
   (first | rw [c14b0] | (simp only [i64_w, i32_w]; rw [c14b0]) | skip)
   replace H := Option.bind_eq_some_iff.mp H
   obtain ⟨t335, A150, H⟩ := H
   replace H : (l08_ExtentCuts.j0 k a1 t326 t327 (!t335) t330 t333) = some r := H
   have A15 := Aside0.mk A150
   clear A150
   have H' := Aside0.mk H
   clear H
   have hcz16_0 : w11.cell? ⟨gb334, 0, none⟩ = some (.slice none 0 0) := (blk_cell BK334.out 0).trans rfl
   have hcz16_1 : w11.cell? ⟨gb334, 1, none⟩ = some (.int .i64 0) := (blk_cell BK334.out 1).trans rfl
   have hfz16_0 := blk_frozen BK334.out 0
   have hfz16_1 := blk_frozen BK334.out 1
   go_wp2_with (first | (go_at_call 21; (with_reducible refine (l08_sane.calls k _ _ t330 t333 t335 _ ?side1 ?side2 A15.out).mono ?_); (case side1 => refine (Kd.R_reads' (e := 58) (base := w.heap.size) (ok := fun k_ => (True ∧ some k_ ≠ (.slice Ao9 t327.length co9 : Value).ownBlock)) (n := t330.length) (c := co12) ?_).2.2; exact (by (with_reducible repeat (first | apply Kd.R_alloc | apply Kd.R_drewN | apply Kd.R_drew)); exact (Kd.R_mono (Kd.R_far (p := ⟨gb334, 1, none⟩) (Kd.R_far (p := ⟨gb334, 0, none⟩) (Kd.R_types HO332.out BK334.out (by decide)) (fun _ hk => hk.2) (.slice Ao12 t330.length co12)) (fun _ hk => hk.2) (.int .i64 t333)) (fun _ h_ => h_.1)))); (case side2 => exact (Kd.R_reads' HO332.out).2.1); rintro e w17 ⟨rfl, hb⟩; have n0_ := Aside0.mk (Kd.R_below (by (with_reducible repeat (first | apply Kd.R_alloc | apply Kd.R_drewN | apply Kd.R_drew)); exact (Kd.R_mono (Kd.R_far (p := ⟨gb334, 1, none⟩) (Kd.R_far (p := ⟨gb334, 0, none⟩) (Kd.R_types HO329.out BK334.out (by decide)) (fun _ hk => hk.2) (.slice Ao12 t330.length co12)) (fun _ hk => hk.2) (.int .i64 t333)) (fun _ h_ => h_.1))) hb); have n1_ := Aside0.mk (Kd.R_below (by (with_reducible repeat (first | apply Kd.R_alloc | apply Kd.R_drewN | apply Kd.R_drew)); exact (Kd.R_mono (Kd.R_far (p := ⟨gb334, 1, none⟩) (Kd.R_far (p := ⟨gb334, 0, none⟩) (Kd.R_types HO332.out BK334.out (by decide)) (fun _ hk => hk.2) (.slice Ao12 t330.length co12)) (fun _ hk => hk.2) (.int .i64 t333)) (fun _ h_ => h_.1))) hb); have n2_ := Aside0.mk (blk_below (g := gb334) (o := .cells #[.slice Ao12 t330.length co12, .int .i64 t333] 40 (0, 0)) (by (with_reducible repeat (first | refine blk_drewN ?_ _ | refine blk_drew ?_ | refine blk_alloc ?_ _)); refine blk_put (cs := #[.slice Ao12 t330.length co12, .int .i64 0]) ?_ 1 _ rfl; (with_reducible repeat (first | refine blk_drewN ?_ _ | refine blk_drew ?_ | refine blk_alloc ?_ _)); refine blk_put (cs := #[.slice none 0 0, .int .i64 0]) ?_ 0 _ rfl; (with_reducible repeat (first | refine blk_drewN ?_ _ | refine blk_drew ?_ | refine blk_alloc ?_ _)); exact BK334.out) hb); have n3_ := Aside0.mk (below_step (by repeat (first | (with_reducible first | exact HB.out | apply below_alloc | apply pw_below_drewN | apply below_drew1 | refine below_set ?_ GE334.out) | exact HB.out)) hb); clear HO329; clear HO332; clear BK334; clear HB; have HO329 := n0_; have HO332 := n1_; have BK334 := n2_; have HB := n3_; clear n0_ n1_ n2_ n3_; (try clear hb); (try clear hb2); (try clear hk); (try clear hi)))
   go_meet
   case rel => exact ⟨_, (!t335), (by first | rfl | (simp; done) | (simp [*]; done)), H', ⟨by first | omega | exact Nat.le_refl _⟩, ⟨by (with_reducible repeat (first | apply Kd.R_alloc | apply Kd.R_drewN | apply Kd.R_drew)); exact Kd.R_mono HO329.out (fun _ hk => hk.2)⟩, ⟨by (with_reducible repeat (first | apply Kd.R_alloc | apply Kd.R_drewN | apply Kd.R_drew)); exact Kd.R_mono HO332.out (fun _ hk => hk.2)⟩, ⟨by (with_reducible repeat (first | refine blk_drewN ?_ _ | refine blk_drew ?_ | refine blk_alloc ?_ _)); exact BK334.out⟩, ⟨by repeat (first | (with_reducible first | exact HB.out | apply below_alloc | apply pw_below_drewN | apply below_drew1 | refine below_set ?_ GE334.out) | exact HB.out)⟩⟩
  ·rw [if_neg c14] at H
   have c14b0 : (t333 == 0) = false := beq_eq_false_iff_ne.mpr c14
   have c14b1 : (t333 != 0) = true := bne_iff_ne.mpr c14
   (first | rw [c14b0] | (simp only [i64_w, i32_w]; rw [c14b0]) | skip)
   have H' := Aside0.mk H
   clear H
   have hcz18_0 : w11.cell? ⟨gb334, 0, none⟩ = some (.slice none 0 0) := (blk_cell BK334.out 0).trans rfl
   have hcz18_1 : w11.cell? ⟨gb334, 1, none⟩ = some (.int .i64 0) := (blk_cell BK334.out 1).trans rfl
   have hfz18_0 := blk_frozen BK334.out 0
   have hfz18_1 := blk_frozen BK334.out 1
   go_wp2
   go_meet
   case rel => exact ⟨_, (true), (by first | rfl | (simp; done) | (simp [*]; done)), H', ⟨by first | omega | exact Nat.le_refl _⟩, ⟨by (with_reducible repeat (first | apply Kd.R_alloc | apply Kd.R_drewN | apply Kd.R_drew)); exact Kd.R_mono (Kd.R_far (p := ⟨gb334, 1, none⟩) (Kd.R_far (p := ⟨gb334, 0, none⟩) (Kd.R_types HO329.out BK334.out (by decide)) (fun _ hk => hk.2) (.slice Ao12 t330.length co12)) (fun _ hk => hk.2) (.int .i64 t333)) (fun _ hk => hk.1.2)⟩, ⟨by (with_reducible repeat (first | apply Kd.R_alloc | apply Kd.R_drewN | apply Kd.R_drew)); exact Kd.R_mono (Kd.R_far (p := ⟨gb334, 1, none⟩) (Kd.R_far (p := ⟨gb334, 0, none⟩) (Kd.R_types HO332.out BK334.out (by decide)) (fun _ hk => hk.2) (.slice Ao12 t330.length co12)) (fun _ hk => hk.2) (.int .i64 t333)) (fun _ hk => hk.1.2)⟩, ⟨by (with_reducible repeat (first | refine blk_drewN ?_ _ | refine blk_drew ?_ | refine blk_alloc ?_ _)); refine blk_put (cs := #[.slice Ao12 t330.length co12, .int .i64 0]) ?_ 1 _ rfl; (with_reducible repeat (first | refine blk_drewN ?_ _ | refine blk_drew ?_ | refine blk_alloc ?_ _)); refine blk_put (cs := #[.slice none 0 0, .int .i64 0]) ?_ 0 _ rfl; (with_reducible repeat (first | refine blk_drewN ?_ _ | refine blk_drew ?_ | refine blk_alloc ?_ _)); exact BK334.out⟩, ⟨by repeat (first | (with_reducible first | exact HB.out | apply below_alloc | apply pw_below_drewN | apply below_drew1 | refine below_set ?_ GE334.out) | exact HB.out)⟩⟩
 case rest =>
  clear HC6
  try clear c1
  try clear c2
  try clear p2
  try clear c5
  try clear p6
  try clear c10
  try clear c11
  try clear c14
  try clear c14b0
  try clear c14b1
  try clear hcz13_0
  try clear hcz13_1
  try clear hcz16_0
  try clear hcz16_1
  try clear hcz18_0
  try clear hcz18_1
  try clear hfz13_0
  try clear hfz13_1
  try clear hfz16_0
  try clear hfz16_1
  try clear hfz18_0
  try clear hfz18_1
  obtain ⟨kq, x27_5, rfl, HA, HJ5, HO_6, HO_335000, BK334, HB⟩ := hcut
  cases kq with
  | zero => exact absurd HA.out (by simp [l08_ExtentCuts.j0])
  | succ kj5 =>
   have H := HA.out
   clear HA
   simp only [l08_ExtentCuts.j0] at H
   by_cases c19 : x27_5 = true
   ·subst c19
    have H1 : (some false) = some r := by rw [if_pos rfl] at H; exact H
    clear H
    have H := H1
    clear H1
    exact absurd ((Option.some.inj H).trans HLAW.out) (by decide)
   ·replace c19 := Bool.eq_false_iff.mpr c19
    subst c19
    have H1 : ((r08_Each.f kj5 t327).bind fun t336 => ((r08_Each.f kj5 t330).bind fun t339 => (if (t339.length : Int) = (wrap64 (a1)) then (l08_ExtentCuts.l0 kj5 a1 t326 t327 t336 t339 0 t330 t333) else (some false)))) = some r := by rw [if_neg (show ¬ (false = true) by decide)] at H; exact H
    clear H
    have H := H1
    clear H1
    replace H := Option.bind_eq_some_iff.mp H
    obtain ⟨t336, A200, H⟩ := H
    replace H : ((r08_Each.f kj5 t330).bind fun t339 => (if (t339.length : Int) = (wrap64 (a1)) then (l08_ExtentCuts.l0 kj5 a1 t326 t327 t336 t339 0 t330 t333) else (some false))) = some r := H
    have A20 := Aside0.mk A200
    clear A200
    replace H := Option.bind_eq_some_iff.mp H
    obtain ⟨t339, A210, H⟩ := H
    replace H : (if (t339.length : Int) = (wrap64 (a1)) then (l08_ExtentCuts.l0 kj5 a1 t326 t327 t336 t339 0 t330 t333) else (some false)) = some r := H
    have A21 := Aside0.mk A210
    clear A210
    by_cases c22 : (t339.length : Int) = (wrap64 (a1))
    ·rw [if_pos c22] at H
     have c22b0 : ((t339.length : Int) == (wrap64 (a1))) = true := beq_iff_eq.mpr c22
     have c22b1 : ((t339.length : Int) != (wrap64 (a1))) = false := bne_eq_false_iff_eq.mpr c22
     clear c22
     have H' := Aside0.mk H
     clear H
     try go_wp2
     have n0_ := Aside0.mk (Kd.R_drew HO_6.out)
     have n1_ := Aside0.mk (Kd.R_drew HO_335000.out)
     have n2_ := Aside0.mk (blk_drew BK334.out)
     have n3_ := Aside0.mk (below_drew1 HB.out)
     clear HO_6
     clear HO_335000
     clear BK334
     clear HB
     have HO_6 := n0_
     have HO_335000 := n1_
     have BK334 := n2_
     have HB := n3_
     clear n0_ n1_ n2_ n3_
     refine start_ (n := 7) (S := fun w' => w'.cell? ⟨gb334, 0, none⟩ = some (.slice Ao12 t330.length co12) ∧ w'.cell? ⟨gb334, 1, none⟩ = some (.int .i64 t333)) (ds := []) #[false, false, false, false, false, false, false] (by kernel_rfl) rfl rfl ⟨(blk_cell BK334.out 0).trans rfl, (blk_cell BK334.out 1).trans rfl⟩ (fun hHeld => ?_)
     generalize wc.drew = w23 at HO_6 HO_335000 BK334 HB hHeld ⊢
     refine pure_ (i := 0) (N := some 28) (v := ?_) (a' := ?_) #[true, false, false, false, false, false, false] rfl rfl (by kernel_rfl) (fun _ _ _ h => h) (Or.inl ⟨by rfl, ?_⟩) ?_ ?_
     rotate_left
     ·intro w'
      go_simp
      with_reducible rfl
     rotate_left
     ·simp only [Act.put, List.setIfInBounds_toArray, List.set_cons_zero, List.set_cons_succ, i64_w, i32_w]
      rfl
     refine pure_ (i := 2) (N := some 30) (v := ?_) (a' := ?_) #[true, false, true, false, false, false, false] rfl rfl (by kernel_rfl) (fun _ _ _ h => h) (Or.inl ⟨by rfl, ?_⟩) ?_ ?_
     rotate_left
     ·intro w'
      go_simp
      with_reducible rfl
     rotate_left
     ·simp only [Act.put, List.setIfInBounds_toArray, List.set_cons_zero, List.set_cons_succ, i64_w, i32_w]
      rfl
     refine take_ (i := 3) (N := some 31) (v := ?_) (a' := ?_) #[true, false, true, true, false, false, false] rfl rfl (by kernel_rfl) (fun _ _ _ h => h) (Or.inl ⟨by rfl, ?_⟩) hHeld ?_ ?_
     rotate_left
     ·rintro w' ⟨s0, s1⟩
      go_simp
      with_reducible rfl
     rotate_left
     ·simp only [Act.put, List.setIfInBounds_toArray, List.set_cons_zero, List.set_cons_succ, i64_w, i32_w]
      rfl
     refine one_ (i := 1) (N := some 29) #[true, true, true, true, false, false, false] rfl rfl (by kernel_rfl) (by decide) (fun K hK => ?_)
     refine goes_ Try.func12 (by kernel_rfl) rfl #[.slice Ao9 t327.length co9] (by rfl) rfl rfl (by (try simp only [List.map_toArray, List.map_cons, List.map_nil]); first | done | rfl | (simp only [List.length_drop, List.length_take]; rfl)) ?_
     with_reducible refine (r08_Each.calls kj5 _ _ t327 t336 _ ?side1 ?side2 A20.out).mono ?_
     (case side1 => repeat (first | exact (Kd.R_reads' HO_6.out).2.2 | (with_reducible refine Kd.C_alloc ?_ _) | (with_reducible refine Kd.C_drewN ?_ _) | (with_reducible refine Kd.C_drew ?_)))
     (case side2 => exact (Kd.R_reads' HO_6.out).2.1)
     rintro e w24 ⟨v337, rfl, ho0, hb⟩
     refine ⟨_, rfl, ?_⟩
     have n0_ := Aside0.mk (Kd.R_below (by (with_reducible repeat (first | apply Kd.R_alloc | apply Kd.R_drewN | apply Kd.R_drew)); exact HO_6.out) hb)
     have n1_ := Aside0.mk (Kd.R_below (by (with_reducible repeat (first | apply Kd.R_alloc | apply Kd.R_drewN | apply Kd.R_drew)); exact HO_335000.out) hb)
     have n2_ := Aside0.mk (Kd.R_lower ho0 (below_size (by repeat (first | (with_reducible first | exact HB.out | apply below_alloc | apply pw_below_drewN | apply below_drew1 | refine below_set ?_ GE334.out) | exact HB.out))))
     have n3_ := Aside0.mk (blk_below (g := gb334) (o := .cells #[.slice Ao12 t330.length co12, .int .i64 t333] 40 (0, 0)) (by (with_reducible repeat (first | refine blk_drewN ?_ _ | refine blk_drew ?_ | refine blk_alloc ?_ _)); exact BK334.out) hb)
     have n4_ := Aside0.mk (below_step (by repeat (first | (with_reducible first | exact HB.out | apply below_alloc | apply pw_below_drewN | apply below_drew1 | refine below_set ?_ GE334.out) | exact HB.out)) hb)
     clear HO_6
     clear HO_335000
     clear BK334
     clear HB
     have HO_6 := n0_
     have HO_335000 := n1_
     have HO338 := n2_
     have BK334 := n3_
     have HB := n4_
     clear n0_ n1_ n2_ n3_ n4_
     (try clear hb)
     (try clear hb2)
     (try clear hk)
     (try clear hi)
     (try clear ho0)
     refine hK.out _ _ ⟨(blk_cell BK334.out 0).trans rfl, (blk_cell BK334.out 1).trans rfl⟩ (fun hHeld => ?_)
     clear hK K
     refine norm_ (a' := ?_) ?_ ?_
     rotate_left
     ·show Act.put _ (some 29) _ = _
      simp only [Act.put, List.setIfInBounds_toArray, List.set_cons_zero, List.set_cons_succ, i64_w, i32_w]
      rfl
     refine one_ (i := 4) (N := some 32) #[true, true, true, true, true, false, false] rfl rfl (by kernel_rfl) (by decide) (fun K hK => ?_)
     refine goes_ Try.func12 (by kernel_rfl) rfl #[.slice Ao12 t330.length co12] (by rfl) rfl rfl (by (try simp only [List.map_toArray, List.map_cons, List.map_nil]); first | done | rfl | (simp only [List.length_drop, List.length_take]; rfl)) ?_
     with_reducible refine (r08_Each.calls kj5 _ _ t330 t339 _ ?side1 ?side2 A21.out).mono ?_
     (case side1 => repeat (first | exact (Kd.R_reads' HO_335000.out).2.2 | (with_reducible refine Kd.C_alloc ?_ _) | (with_reducible refine Kd.C_drewN ?_ _) | (with_reducible refine Kd.C_drew ?_)))
     (case side2 => exact (Kd.R_reads' HO_335000.out).2.1)
     rintro e w25 ⟨v340, rfl, ho0, hb⟩
     refine ⟨_, rfl, ?_⟩
     have n0_ := Aside0.mk (Kd.R_below (by (with_reducible repeat (first | apply Kd.R_alloc | apply Kd.R_drewN | apply Kd.R_drew)); exact HO_6.out) hb)
     have n1_ := Aside0.mk (Kd.R_below (by (with_reducible repeat (first | apply Kd.R_alloc | apply Kd.R_drewN | apply Kd.R_drew)); exact HO_335000.out) hb)
     have n2_ := Aside0.mk (Kd.R_elder' (by (with_reducible repeat (first | apply Kd.R_alloc | apply Kd.R_drewN | apply Kd.R_drew)); exact HO338.out) (Kd.R_base ho0) hb)
     have n3_ := Aside0.mk (Kd.R_lower (Kd.R_new' ho0 (Kd.R_lt (by (with_reducible repeat (first | apply Kd.R_alloc | apply Kd.R_drewN | apply Kd.R_drew)); exact HO338.out))) (below_size (by repeat (first | (with_reducible first | exact HB.out | apply below_alloc | apply pw_below_drewN | apply below_drew1 | refine below_set ?_ GE334.out) | exact HB.out))))
     have n4_ := Aside0.mk (blk_below (g := gb334) (o := .cells #[.slice Ao12 t330.length co12, .int .i64 t333] 40 (0, 0)) (by (with_reducible repeat (first | refine blk_drewN ?_ _ | refine blk_drew ?_ | refine blk_alloc ?_ _)); exact BK334.out) hb)
     have n5_ := Aside0.mk (below_step (by repeat (first | (with_reducible first | exact HB.out | apply below_alloc | apply pw_below_drewN | apply below_drew1 | refine below_set ?_ GE334.out) | exact HB.out)) hb)
     clear HO_6
     clear HO_335000
     clear HO338
     clear BK334
     clear HB
     have HO_6 := n0_
     have HO_335000 := n1_
     have HO338 := n2_
     have HO341 := n3_
     have BK334 := n4_
     have HB := n5_
     clear n0_ n1_ n2_ n3_ n4_ n5_
     (try clear hb)
     (try clear hb2)
     (try clear hk)
     (try clear hi)
     (try clear ho0)
     refine hK.out _ _ ⟨(blk_cell BK334.out 0).trans rfl, (blk_cell BK334.out 1).trans rfl⟩ (fun hHeld => ?_)
     clear hK K
     refine norm_ (a' := ?_) ?_ ?_
     rotate_left
     ·show Act.put _ (some 32) _ = _
      simp only [Act.put, List.setIfInBounds_toArray, List.set_cons_zero, List.set_cons_succ, i64_w, i32_w]
      rfl
     refine pure_ (i := 5) (N := some 8) (v := ?_) (a' := ?_) #[true, true, true, true, true, true, false] rfl rfl (by kernel_rfl) (fun _ _ _ h => h) (Or.inl ⟨by rfl, ?_⟩) ?_ ?_
     rotate_left
     ·intro w'
      go_simp
      with_reducible rfl
     rotate_left
     ·simp only [Act.put, List.setIfInBounds_toArray, List.set_cons_zero, List.set_cons_succ, i64_w, i32_w]
      rfl
     refine pure_ (i := 6) (N := some 9) (v := ?_) (a' := ?_) #[true, true, true, true, true, true, true] rfl rfl (by kernel_rfl) (fun _ _ _ h => h) (Or.inl ⟨by rfl, ?_⟩) ?_ ?_
     rotate_left
     ·intro w'
      go_simp
      with_reducible rfl
     rotate_left
     ·simp only [Act.put, List.setIfInBounds_toArray, List.set_cons_zero, List.set_cons_succ, i64_w, i32_w]
      rfl
     refine done_ (by kernel_rfl) ?_
     obtain ⟨Ao26, co26, eo26⟩ := Kd.R_slice HO341.out
     subst eo26
     try go_wp2
     go_loopg [10] kj5 (fun kq v10 w' => ∃ (x10_2 : Int), v10 = .int .i64 x10_2 ∧ Aside0 (l08_ExtentCuts.l0 kq a1 t326 t327 t336 t339 x10_2 t330 t333 = some r) ∧ Aside0 (kq ≤ kj5) ∧ Aside0 (Kd.R k58 58 w' w.heap.size (fun k_ => some k_ ≠ ((.slice Ao12 t330.length co12) : Value).ownBlock) (.slice Ao9 t327.length co9) t327) ∧ Aside0 (Kd.R k32 32 w' w.heap.size (fun k_ => some k_ ≠ ((.slice Ao26 t339.length co26) : Value).ownBlock) v337 t336) ∧ Aside0 (Kd.R k32 32 w' w.heap.size (fun k_ => some k_ ≠ (v337 : Value).ownBlock) (.slice Ao26 t339.length co26) t339) ∧ Aside0 (Kd.R k58 58 w' w.heap.size (fun k_ => some k_ ≠ ((.slice Ao9 t327.length co9) : Value).ownBlock) (.slice Ao12 t330.length co12) t330) ∧ Aside0 (w'.heap[gb334]? = some (.cells #[(.slice Ao12 t330.length co12), .int .i64 t333] 40 (0, 0))) ∧ Aside0 (Below w.heap.size w w'))
     case atStart => exact ⟨(0), (by first | rfl | (simp; done) | (simp [*]; done)), H', ⟨Nat.le_refl _⟩, ⟨by (with_reducible repeat (first | apply Kd.R_alloc | apply Kd.R_drewN | apply Kd.R_drew)); exact HO_6.out⟩, ⟨by (with_reducible repeat (first | apply Kd.R_alloc | apply Kd.R_drewN | apply Kd.R_drew)); exact Kd.R_mono HO338.out (fun _ hk => hk.2)⟩, ⟨by (with_reducible repeat (first | apply Kd.R_alloc | apply Kd.R_drewN | apply Kd.R_drew)); exact Kd.R_mono HO341.out (fun _ hk => hk.2)⟩, ⟨by (with_reducible repeat (first | apply Kd.R_alloc | apply Kd.R_drewN | apply Kd.R_drew)); exact HO_335000.out⟩, ⟨by (with_reducible repeat (first | refine blk_drewN ?_ _ | refine blk_drew ?_ | refine blk_alloc ?_ _)); exact BK334.out⟩, ⟨by repeat (first | (with_reducible first | exact HB.out | apply below_alloc | apply pw_below_drewN | apply below_drew1 | refine below_set ?_ GE334.out) | exact HB.out)⟩⟩
     case round =>
      clear H'
      try clear c1
      try clear c2
      try clear p2
      try clear c5
      try clear p6
      try clear c10
      try clear c11
      try clear c12
      try clear c14
      try clear c14b0
      try clear c14b1
      try clear c19
      try clear c22
      try clear c22b0
      try clear c22b1
      try clear c23
      try clear hcz13_0
      try clear hcz13_1
      try clear hcz16_0
      try clear hcz16_1
      try clear hcz18_0
      try clear hcz18_1
      try clear hfz13_0
      try clear hfz13_1
      try clear hfz16_0
      try clear hfz16_1
      try clear hfz18_0
      try clear hfz18_1
      try clear p2
      try clear p6
      obtain ⟨x10_2, rfl, HA, HK2, HO_6, HO_8, HO_9, HO_335000, BK334, HB⟩ := hrel
      cases gk with
      | zero => exact absurd HA.out (by simp [l08_ExtentCuts.l0])
      | succ k2 =>
       have H := HA.out
       clear HA
       simp only [l08_ExtentCuts.l0] at H
       by_cases c27 : x10_2 < (t339.length : Int)
       ·rw [if_pos c27] at H
        have c27b0 : decide (x10_2 < (t339.length : Int)) = true := decide_eq_true c27
        clear c27
        by_cases c28 : x10_2 < (t336.length : Int)
        ·rw [if_pos c28] at H
         have c28b0 : decide (x10_2 < (t336.length : Int)) = true := decide_eq_true c28
         clear c28
         by_cases c29 : 0 ≤ x10_2
         ·rw [if_pos c29] at H
          have c29b0 : decide (0 ≤ x10_2) = true := decide_eq_true c29
          clear c29
          by_cases c30 : (!(((rd_T32 t339 x10_2).f0) == ((rd_T32 t336 x10_2).f0)) || (!(((rd_T32 t339 x10_2).f1) == ((rd_T32 t336 x10_2).f1)))) = true
          ·rw [if_pos c30] at H
           have c30b0 : (!(((rd_T32 t339 x10_2).f0) == ((rd_T32 t336 x10_2).f0)) || (!(((rd_T32 t339 x10_2).f1) == ((rd_T32 t336 x10_2).f1)))) = true := c30
           clear c30
           exact absurd ((Option.some.inj H).trans HLAW.out) (by decide)
          ·rw [if_neg c30] at H
           have c30b0 : (!(((rd_T32 t339 x10_2).f0) == ((rd_T32 t336 x10_2).f0)) || (!(((rd_T32 t339 x10_2).f1) == ((rd_T32 t336 x10_2).f1)))) = false := by simpa using c30
           clear c30
           have H' := Aside0.mk H
           clear H
           try go_wp2_with (first | ((with_reducible refine gate_dst (N := 11) rfl ?_); refine box_event ?hg (N := 11) ?hd (cs := #[.int .i64 0, .int .i64 0]) (t := 32) ?hr ?_; (case hd => rfl); (case hg => rfl); (case hr => first | (go_simp; done) | (go_simp; rfl)); intro gb348 hg w31 hbox hb; have n0_ := Aside0.mk (Kd.R_below (by (with_reducible repeat (first | apply Kd.R_alloc | apply Kd.R_drewN | apply Kd.R_drew)); exact HO_6.out) hb); have n1_ := Aside0.mk (Kd.R_below (Kd.R_elderB (by (with_reducible repeat (first | apply Kd.R_alloc | apply Kd.R_drewN | apply Kd.R_drew)); exact HO_8.out) gb348 (Nat.le_of_eq hg.symm)) hb); have n2_ := Aside0.mk (Kd.R_below (Kd.R_elderB (by (with_reducible repeat (first | apply Kd.R_alloc | apply Kd.R_drewN | apply Kd.R_drew)); exact HO_9.out) gb348 (Nat.le_of_eq hg.symm)) hb); have n3_ := Aside0.mk (Kd.R_below (by (with_reducible repeat (first | apply Kd.R_alloc | apply Kd.R_drewN | apply Kd.R_drew)); exact HO_335000.out) hb); have n4_ := Aside0.mk (blk_below (g := gb334) (o := .cells #[.slice Ao12 t330.length co12, .int .i64 t333] 40 (0, 0)) (by (with_reducible repeat (first | refine blk_drewN ?_ _ | refine blk_drew ?_ | refine blk_alloc ?_ _)); exact BK334.out) hb); have n5_ := Aside0.mk (below_step (by repeat (first | (with_reducible first | exact HB.out | apply below_alloc | apply pw_below_drewN | apply below_drew1 | refine below_set ?_ GE334.out) | exact HB.out)) hb); have n6_ := Aside0.mk (hbox); have n7_ := Aside0.mk ((by rw [hg]; exact (below_size (by repeat (first | (with_reducible first | exact HB.out | apply below_alloc | apply pw_below_drewN | apply below_drew1 | refine below_set ?_ GE334.out) | exact HB.out))) : w.heap.size ≤ gb348)); have n8_ := Aside0.mk ((by rw [hg]; exact (below_size (by repeat (first | (with_reducible first | exact HB.out | apply below_alloc | apply pw_below_drewN | apply below_drew1 | refine below_set ?_ GE334.out) | exact HB.out))) : w.heap.size ≤ gb348)); have n9_ := Aside0.mk ((by rw [hg]; exact Nat.ne_of_lt (blk_lt (g := gb334) (o := .cells #[.slice Ao12 t330.length co12, .int .i64 t333] 40 (0, 0)) (by (with_reducible repeat (first | refine blk_drewN ?_ _ | refine blk_drew ?_ | refine blk_alloc ?_ _)); exact BK334.out)) : gb334 ≠ gb348)); have n10_ := Aside0.mk ((by rw [hg]; exact Nat.ne_of_gt (blk_lt (g := gb334) (o := .cells #[.slice Ao12 t330.length co12, .int .i64 t333] 40 (0, 0)) (by (with_reducible repeat (first | refine blk_drewN ?_ _ | refine blk_drew ?_ | refine blk_alloc ?_ _)); exact BK334.out)) : gb348 ≠ gb334)); clear HO_6; clear HO_8; clear HO_9; clear HO_335000; clear BK334; clear HB; have HO_6 := n0_; have HO_8 := n1_; have HO_9 := n2_; have HO_335000 := n3_; have BK334 := n4_; have HB := n5_; have BK348 := n6_; have GW348 := n7_; have GE348 := n8_; have NB334_348 := n9_; have NB348_334 := n10_; clear n0_ n1_ n2_ n3_ n4_ n5_ n6_ n7_ n8_ n9_ n10_; clear hb hbox hg; have hnb32 := NB348_334.out; have hnc32 := NB334_348.out; have hcz33_0 : w31.cell? ⟨gb348, 0, none⟩ = some (.int .i64 0) := (blk_cell BK348.out 0).trans rfl; have hcz33_1 : w31.cell? ⟨gb348, 1, none⟩ = some (.int .i64 0) := (blk_cell BK348.out 1).trans rfl; have hfz33_0 := blk_frozen BK348.out 0; have hfz33_1 := blk_frozen BK348.out 1; obtain ⟨Ao34, co34, eo34⟩ := Kd.R_slice HO_8.out; subst eo34; have p349 : 0 ≤ (x10_2 : Int) := of_decide_eq_true (by first | (with_reducible assumption) | assumption); have q349 : x10_2 < (t336.length : Int) := of_decide_eq_true (by first | (with_reducible assumption) | assumption); obtain ⟨ad349, e349, hx349_0, hx349_1⟩ := at_T32 (Kd.R_reads' HO_8.out).2.2 x10_2 p349 q349; cases e349; have hn349_0 : ad349.block ≠ gb348 := Kd.own_blk (by first | exact Kd.R_ne HO_8.out BK348.out (by decide) | exact fun h => (HO_8.out.1 _ h.symm).2 rfl); have hn349_1 : ad349.block ≠ gb348 := Kd.own_blk (by first | exact Kd.R_ne HO_8.out BK348.out (by decide) | exact fun h => (HO_8.out.1 _ h.symm).2 rfl); replace hx349_0 := (cell_far (p := ⟨gb348, 0, none⟩) (by first | (rw [add_block]; exact hn349_0) | (show (Addr.add _ _).block ≠ _; rw [add_block]; exact hn349_0) | exact hn349_0) (.int .i64 0)).trans hx349_0; replace hx349_1 := (cell_far (p := ⟨gb348, 0, none⟩) (by first | (rw [add_block]; exact hn349_0) | (show (Addr.add _ _).block ≠ _; rw [add_block]; exact hn349_0) | exact hn349_0) (.int .i64 0)).trans hx349_1; replace hx349_0 := (cell_far (p := ⟨gb348, 1, none⟩) (by first | (rw [add_block]; exact hn349_1) | (show (Addr.add _ _).block ≠ _; rw [add_block]; exact hn349_1) | exact hn349_1) (.int .i64 0)).trans hx349_0; replace hx349_1 := (cell_far (p := ⟨gb348, 1, none⟩) (by first | (rw [add_block]; exact hn349_1) | (show (Addr.add _ _).block ≠ _; rw [add_block]; exact hn349_1) | exact hn349_1) (.int .i64 0)).trans hx349_1; clear hn349_0; clear hn349_1; replace p349 := eq_true p349; replace q349 := eq_true q349))
           have n0_ : Aside0 (Kd.R k58 58 ((((w31.setCell ⟨gb348, 0, none⟩ (.int .i64 0)).setCell ⟨gb348, 1, none⟩ (.int .i64 0)).setCell ⟨gb348, 0, none⟩ (.int .i64 ((rd_T32 t336 x10_2).f0))).setCell ⟨gb348, 1, none⟩ (.int .i64 ((rd_T32 t336 x10_2).f1))) w.heap.size (fun k_ => some k_ ≠ (.slice Ao12 t330.length co12 : Value).ownBlock) (.slice Ao9 t327.length co9) t327) := ⟨by (with_reducible repeat (first | apply Kd.R_alloc | apply Kd.R_drewN | apply Kd.R_drew)); exact Kd.R_mono (Kd.R_far (p := ⟨gb348, 1, none⟩) (Kd.R_far (p := ⟨gb348, 0, none⟩) (Kd.R_far (p := ⟨gb348, 1, none⟩) (Kd.R_far (p := ⟨gb348, 0, none⟩) (Kd.R_types HO_6.out BK348.out (by decide)) (fun _ hk => hk.2) (.int .i64 0)) (fun _ hk => hk.2) (.int .i64 0)) (fun _ hk => hk.2) (.int .i64 ((rd_T32 t336 x10_2).f0))) (fun _ hk => hk.2) (.int .i64 ((rd_T32 t336 x10_2).f1))) (fun _ hk => hk.1)⟩
           have n1_ : Aside0 (Kd.R k32 32 ((((w31.setCell ⟨gb348, 0, none⟩ (.int .i64 0)).setCell ⟨gb348, 1, none⟩ (.int .i64 0)).setCell ⟨gb348, 0, none⟩ (.int .i64 ((rd_T32 t336 x10_2).f0))).setCell ⟨gb348, 1, none⟩ (.int .i64 ((rd_T32 t336 x10_2).f1))) w.heap.size (fun k_ => some k_ ≠ (.slice Ao26 t339.length co26 : Value).ownBlock ∧ k_ ≠ gb348) (.slice (some ad349) t336.length co34) t336) := ⟨by (with_reducible repeat (first | apply Kd.R_alloc | apply Kd.R_drewN | apply Kd.R_drew)); exact Kd.R_mono (Kd.R_far (p := ⟨gb348, 1, none⟩) (Kd.R_far (p := ⟨gb348, 0, none⟩) (Kd.R_far (p := ⟨gb348, 1, none⟩) (Kd.R_far (p := ⟨gb348, 0, none⟩) (Kd.R_mono HO_8.out (fun k_ hk => (⟨hk, hk.2⟩ : _ ∧ k_ ≠ gb348))) (fun _ hk => hk.2) (.int .i64 0)) (fun _ hk => hk.2) (.int .i64 0)) (fun _ hk => hk.2) (.int .i64 ((rd_T32 t336 x10_2).f0))) (fun _ hk => hk.2) (.int .i64 ((rd_T32 t336 x10_2).f1))) (fun _ hk => ⟨hk.1.1, hk.1.2⟩)⟩
           have n2_ : Aside0 (Kd.R k32 32 ((((w31.setCell ⟨gb348, 0, none⟩ (.int .i64 0)).setCell ⟨gb348, 1, none⟩ (.int .i64 0)).setCell ⟨gb348, 0, none⟩ (.int .i64 ((rd_T32 t336 x10_2).f0))).setCell ⟨gb348, 1, none⟩ (.int .i64 ((rd_T32 t336 x10_2).f1))) w.heap.size (fun k_ => some k_ ≠ (.slice (some ad349) t336.length co34 : Value).ownBlock ∧ k_ ≠ gb348) (.slice Ao26 t339.length co26) t339) := ⟨by (with_reducible repeat (first | apply Kd.R_alloc | apply Kd.R_drewN | apply Kd.R_drew)); exact Kd.R_mono (Kd.R_far (p := ⟨gb348, 1, none⟩) (Kd.R_far (p := ⟨gb348, 0, none⟩) (Kd.R_far (p := ⟨gb348, 1, none⟩) (Kd.R_far (p := ⟨gb348, 0, none⟩) (Kd.R_mono HO_9.out (fun k_ hk => (⟨hk, hk.2⟩ : _ ∧ k_ ≠ gb348))) (fun _ hk => hk.2) (.int .i64 0)) (fun _ hk => hk.2) (.int .i64 0)) (fun _ hk => hk.2) (.int .i64 ((rd_T32 t336 x10_2).f0))) (fun _ hk => hk.2) (.int .i64 ((rd_T32 t336 x10_2).f1))) (fun _ hk => ⟨hk.1.1, hk.1.2⟩)⟩
           have n3_ : Aside0 (Kd.R k58 58 ((((w31.setCell ⟨gb348, 0, none⟩ (.int .i64 0)).setCell ⟨gb348, 1, none⟩ (.int .i64 0)).setCell ⟨gb348, 0, none⟩ (.int .i64 ((rd_T32 t336 x10_2).f0))).setCell ⟨gb348, 1, none⟩ (.int .i64 ((rd_T32 t336 x10_2).f1))) w.heap.size (fun k_ => some k_ ≠ (.slice Ao9 t327.length co9 : Value).ownBlock) (.slice Ao12 t330.length co12) t330) := ⟨by (with_reducible repeat (first | apply Kd.R_alloc | apply Kd.R_drewN | apply Kd.R_drew)); exact Kd.R_mono (Kd.R_far (p := ⟨gb348, 1, none⟩) (Kd.R_far (p := ⟨gb348, 0, none⟩) (Kd.R_far (p := ⟨gb348, 1, none⟩) (Kd.R_far (p := ⟨gb348, 0, none⟩) (Kd.R_types HO_335000.out BK348.out (by decide)) (fun _ hk => hk.2) (.int .i64 0)) (fun _ hk => hk.2) (.int .i64 0)) (fun _ hk => hk.2) (.int .i64 ((rd_T32 t336 x10_2).f0))) (fun _ hk => hk.2) (.int .i64 ((rd_T32 t336 x10_2).f1))) (fun _ hk => hk.1)⟩
           have n4_ : Aside0 (((((w31.setCell ⟨gb348, 0, none⟩ (.int .i64 0)).setCell ⟨gb348, 1, none⟩ (.int .i64 0)).setCell ⟨gb348, 0, none⟩ (.int .i64 ((rd_T32 t336 x10_2).f0))).setCell ⟨gb348, 1, none⟩ (.int .i64 ((rd_T32 t336 x10_2).f1))).heap[gb334]? = some (.cells #[.slice Ao12 t330.length co12, .int .i64 t333] 40 (0, 0))) := ⟨by (with_reducible repeat (first | refine blk_drewN ?_ _ | refine blk_drew ?_ | refine blk_alloc ?_ _)); refine blk_far ?_ NB334_348.out _; (with_reducible repeat (first | refine blk_drewN ?_ _ | refine blk_drew ?_ | refine blk_alloc ?_ _)); refine blk_far ?_ NB334_348.out _; (with_reducible repeat (first | refine blk_drewN ?_ _ | refine blk_drew ?_ | refine blk_alloc ?_ _)); refine blk_far ?_ NB334_348.out _; (with_reducible repeat (first | refine blk_drewN ?_ _ | refine blk_drew ?_ | refine blk_alloc ?_ _)); refine blk_far ?_ NB334_348.out _; (with_reducible repeat (first | refine blk_drewN ?_ _ | refine blk_drew ?_ | refine blk_alloc ?_ _)); exact BK334.out⟩
           have n5_ : Aside0 (((((w31.setCell ⟨gb348, 0, none⟩ (.int .i64 0)).setCell ⟨gb348, 1, none⟩ (.int .i64 0)).setCell ⟨gb348, 0, none⟩ (.int .i64 ((rd_T32 t336 x10_2).f0))).setCell ⟨gb348, 1, none⟩ (.int .i64 ((rd_T32 t336 x10_2).f1))).heap[gb348]? = some (.cells #[.int .i64 ((rd_T32 t336 x10_2).f0), .int .i64 ((rd_T32 t336 x10_2).f1)] 32 (0, 0))) := ⟨by (with_reducible repeat (first | refine blk_drewN ?_ _ | refine blk_drew ?_ | refine blk_alloc ?_ _)); refine blk_put (cs := #[.int .i64 ((rd_T32 t336 x10_2).f0), .int .i64 0]) ?_ 1 _ rfl; (with_reducible repeat (first | refine blk_drewN ?_ _ | refine blk_drew ?_ | refine blk_alloc ?_ _)); refine blk_put (cs := #[.int .i64 0, .int .i64 0]) ?_ 0 _ rfl; (with_reducible repeat (first | refine blk_drewN ?_ _ | refine blk_drew ?_ | refine blk_alloc ?_ _)); refine blk_put (cs := #[.int .i64 0, .int .i64 0]) ?_ 1 _ rfl; (with_reducible repeat (first | refine blk_drewN ?_ _ | refine blk_drew ?_ | refine blk_alloc ?_ _)); refine blk_put (cs := #[.int .i64 0, .int .i64 0]) ?_ 0 _ rfl; (with_reducible repeat (first | refine blk_drewN ?_ _ | refine blk_drew ?_ | refine blk_alloc ?_ _)); exact BK348.out⟩
           have n6_ : Aside0 (Below w.heap.size w ((((w31.setCell ⟨gb348, 0, none⟩ (.int .i64 0)).setCell ⟨gb348, 1, none⟩ (.int .i64 0)).setCell ⟨gb348, 0, none⟩ (.int .i64 ((rd_T32 t336 x10_2).f0))).setCell ⟨gb348, 1, none⟩ (.int .i64 ((rd_T32 t336 x10_2).f1)))) := ⟨by repeat (first | (with_reducible first | exact HB.out | apply below_alloc | apply pw_below_drewN | apply below_drew1 | refine below_set ?_ GE334.out | refine below_set ?_ GE348.out) | exact HB.out)⟩
           (try clear HO_6)
           (try clear HO_8)
           (try clear HO_9)
           (try clear HO_335000)
           (try clear BK334)
           (try clear BK348)
           (try clear HB)
           generalize ((((w31.setCell ⟨gb348, 0, none⟩ (.int .i64 0)).setCell ⟨gb348, 1, none⟩ (.int .i64 0)).setCell ⟨gb348, 0, none⟩ (.int .i64 ((rd_T32 t336 x10_2).f0))).setCell ⟨gb348, 1, none⟩ (.int .i64 ((rd_T32 t336 x10_2).f1))) = w35 at n0_ n1_ n2_ n3_ n4_ n5_ n6_ ⊢
           have HO_6 := n0_
           have HO_8 := n1_
           have HO_9 := n2_
           have HO_335000 := n3_
           have BK334 := n4_
           have BK348 := n5_
           have HB := n6_
           clear n0_ n1_ n2_ n3_ n4_ n5_ n6_
           have n0_ := Aside0.mk (Kd.R_drew HO_6.out)
           have n1_ := Aside0.mk (Kd.R_drew HO_8.out)
           have n2_ := Aside0.mk (Kd.R_drew HO_9.out)
           have n3_ := Aside0.mk (Kd.R_drew HO_335000.out)
           have n4_ := Aside0.mk (blk_drew BK334.out)
           have n5_ := Aside0.mk (blk_drew BK348.out)
           have n6_ := Aside0.mk (below_drew1 HB.out)
           clear HO_6
           clear HO_8
           clear HO_9
           clear HO_335000
           clear BK334
           clear BK348
           clear HB
           have HO_6 := n0_
           have HO_8 := n1_
           have HO_9 := n2_
           have HO_335000 := n3_
           have BK334 := n4_
           have BK348 := n5_
           have HB := n6_
           clear n0_ n1_ n2_ n3_ n4_ n5_ n6_
           have p350 : 0 ≤ (x10_2 : Int) := of_decide_eq_true (by first | (with_reducible assumption) | assumption)
           have q350 : x10_2 < (t339.length : Int) := of_decide_eq_true (by first | (with_reducible assumption) | assumption)
           obtain ⟨ad350, e350, hx350_0, hx350_1⟩ := at_T32 (Kd.R_reads' HO_9.out).2.2 x10_2 p350 q350
           cases e350
           replace p350 := eq_true p350
           replace q350 := eq_true q350
           refine start_ (n := 6) (S := fun w' => w'.cell? ⟨gb348, 0, none⟩ = some (.int .i64 ((rd_T32 t336 x10_2).f0)) ∧ w'.cell? ⟨gb348, 1, none⟩ = some (.int .i64 ((rd_T32 t336 x10_2).f1)) ∧ w'.cell? (ad350.add ((x10_2).toNat * 2)) = some (.int .i64 ((rd_T32 t339 x10_2).f0)) ∧ w'.cell? ⟨(ad350.add ((x10_2).toNat * 2)).block, (ad350.add ((x10_2).toNat * 2)).off + 1, none⟩ = some (.int .i64 ((rd_T32 t339 x10_2).f1))) (ds := []) #[false, false, false, false, false, false] (by kernel_rfl) rfl rfl ⟨(blk_cell BK348.out 0).trans rfl, (blk_cell BK348.out 1).trans rfl, hx350_0, hx350_1⟩ (fun hHeld => ?_)
           generalize w35.drew = w36 at HO_6 HO_8 HO_9 HO_335000 BK334 BK348 HB hx350_0 hx350_1 hHeld ⊢
           refine pure_ (i := 0) (N := some 53) (v := ?_) (a' := ?_) #[true, false, false, false, false, false] rfl rfl (by kernel_rfl) (fun _ _ _ h => h) (Or.inl ⟨by rfl, ?_⟩) ?_ ?_
           rotate_left
           ·intro w'
            go_simp
            with_reducible rfl
           rotate_left
           ·simp only [Act.put, List.setIfInBounds_toArray, List.set_cons_zero, List.set_cons_succ, i64_w, i32_w]
            rfl
           refine pure_ (i := 1) (N := some 54) (v := ?_) (a' := ?_) #[true, true, false, false, false, false] rfl rfl (by kernel_rfl) (fun _ _ _ h => h) (Or.inl ⟨by rfl, ?_⟩) ?_ ?_
           rotate_left
           ·intro w'
            go_simp
            with_reducible rfl
           rotate_left
           ·simp only [Act.put, List.setIfInBounds_toArray, List.set_cons_zero, List.set_cons_succ, i64_w, i32_w]
            rfl
           refine pure_ (i := 2) (N := some 55) (v := ?_) (a' := ?_) #[true, true, true, false, false, false] rfl rfl (by kernel_rfl) (fun _ _ _ h => h) (Or.inl ⟨by rfl, ?_⟩) ?_ ?_
           rotate_left
           ·intro w'
            go_simp
            with_reducible rfl
           rotate_left
           ·simp only [Act.put, List.setIfInBounds_toArray, List.set_cons_zero, List.set_cons_succ, i64_w, i32_w]
            rfl
           refine take_ (i := 3) (N := some 56) (v := ?_) (a' := ?_) #[true, true, true, true, false, false] rfl rfl (by kernel_rfl) (fun _ _ _ h => h) (Or.inl ⟨by rfl, ?_⟩) hHeld ?_ ?_
           rotate_left
           ·rintro w' ⟨s0, s1, s2, s3⟩
            go_simp
            with_reducible rfl
           rotate_left
           ·simp only [Act.put, List.setIfInBounds_toArray, List.set_cons_zero, List.set_cons_succ, i64_w, i32_w]
            rfl
           refine take_ (i := 4) (N := some 57) (v := ?_) (a' := ?_) #[true, true, true, true, true, false] rfl rfl (by kernel_rfl) (fun _ _ _ h => h) (Or.inl ⟨by rfl, ?_⟩) hHeld ?_ ?_
           rotate_left
           ·rintro w' ⟨s0, s1, s2, s3⟩
            go_simp
            with_reducible rfl
           rotate_left
           ·simp only [Act.put, List.setIfInBounds_toArray, List.set_cons_zero, List.set_cons_succ, i64_w, i32_w]
            rfl
           refine pure_ (i := 5) (N := some 58) (v := ?_) (a' := ?_) #[true, true, true, true, true, true] rfl rfl (by kernel_rfl) (fun _ _ _ h => h) (Or.inl ⟨by rfl, ?_⟩) ?_ ?_
           rotate_left
           ·intro w'
            go_simp
            with_reducible rfl
           rotate_left
           ·simp only [Act.put, List.setIfInBounds_toArray, List.set_cons_zero, List.set_cons_succ, i64_w, i32_w]
            rfl
           refine done_ (by kernel_rfl) ?_
           try go_wp2
           go_roundg k2
           case measure => have := HJ5.out; have := HK2.out; omega
           case rel => exact ⟨(wrap64 (x10_2 + 1)), (by first | rfl | (simp; done) | (simp [*]; done)), H', ⟨by have := HJ5.out; have := HK2.out; omega⟩, ⟨by (with_reducible repeat (first | apply Kd.R_alloc | apply Kd.R_drewN | apply Kd.R_drew)); exact HO_6.out⟩, ⟨by (with_reducible repeat (first | apply Kd.R_alloc | apply Kd.R_drewN | apply Kd.R_drew)); exact Kd.R_mono HO_8.out (fun _ hk => hk.1)⟩, ⟨by (with_reducible repeat (first | apply Kd.R_alloc | apply Kd.R_drewN | apply Kd.R_drew)); exact Kd.R_mono HO_9.out (fun _ hk => hk.1)⟩, ⟨by (with_reducible repeat (first | apply Kd.R_alloc | apply Kd.R_drewN | apply Kd.R_drew)); exact HO_335000.out⟩, ⟨by (with_reducible repeat (first | refine blk_drewN ?_ _ | refine blk_drew ?_ | refine blk_alloc ?_ _)); exact BK334.out⟩, ⟨by repeat (first | (with_reducible first | exact HB.out | apply below_alloc | apply pw_below_drewN | apply below_drew1 | refine below_set ?_ GE334.out | refine below_set ?_ GE348.out) | exact HB.out)⟩⟩
         ·rw [if_neg c29] at H
          exact absurd H (by simp)
        ·rw [if_neg c28] at H
         have c28b0 : decide (x10_2 < (t336.length : Int)) = false := decide_eq_false c28
         clear c28
         by_cases c37 : 0 ≤ x10_2
         ·rw [if_pos c37] at H
          have c37b0 : decide (0 ≤ x10_2) = true := decide_eq_true c37
          clear c37
          by_cases c38 : (!(((rd_T32 t339 x10_2).f0) == 0) || (!(((rd_T32 t339 x10_2).f1) == 0))) = true
          ·rw [if_pos c38] at H
           have c38b0 : (!(((rd_T32 t339 x10_2).f0) == 0) || (!(((rd_T32 t339 x10_2).f1) == 0))) = true := c38
           clear c38
           exact absurd ((Option.some.inj H).trans HLAW.out) (by decide)
          ·rw [if_neg c38] at H
           have c38b0 : (!(((rd_T32 t339 x10_2).f0) == 0) || (!(((rd_T32 t339 x10_2).f1) == 0))) = false := by simpa using c38
           clear c38
           have H' := Aside0.mk H
           clear H
           try go_wp2_with (first | ((with_reducible refine gate_dst (N := 11) rfl ?_); refine box_event ?hg (N := 11) ?hd (cs := #[.int .i64 0, .int .i64 0]) (t := 32) ?hr ?_; (case hd => rfl); (case hg => rfl); (case hr => first | (go_simp; done) | (go_simp; rfl)); intro gb348 hg w39 hbox hb; have n0_ := Aside0.mk (Kd.R_below (by (with_reducible repeat (first | apply Kd.R_alloc | apply Kd.R_drewN | apply Kd.R_drew)); exact HO_6.out) hb); have n1_ := Aside0.mk (Kd.R_below (Kd.R_elderB (by (with_reducible repeat (first | apply Kd.R_alloc | apply Kd.R_drewN | apply Kd.R_drew)); exact HO_8.out) gb348 (Nat.le_of_eq hg.symm)) hb); have n2_ := Aside0.mk (Kd.R_below (Kd.R_elderB (by (with_reducible repeat (first | apply Kd.R_alloc | apply Kd.R_drewN | apply Kd.R_drew)); exact HO_9.out) gb348 (Nat.le_of_eq hg.symm)) hb); have n3_ := Aside0.mk (Kd.R_below (by (with_reducible repeat (first | apply Kd.R_alloc | apply Kd.R_drewN | apply Kd.R_drew)); exact HO_335000.out) hb); have n4_ := Aside0.mk (blk_below (g := gb334) (o := .cells #[.slice Ao12 t330.length co12, .int .i64 t333] 40 (0, 0)) (by (with_reducible repeat (first | refine blk_drewN ?_ _ | refine blk_drew ?_ | refine blk_alloc ?_ _)); exact BK334.out) hb); have n5_ := Aside0.mk (below_step (by repeat (first | (with_reducible first | exact HB.out | apply below_alloc | apply pw_below_drewN | apply below_drew1 | refine below_set ?_ GE334.out) | exact HB.out)) hb); have n6_ := Aside0.mk (hbox); have n7_ := Aside0.mk ((by rw [hg]; exact (below_size (by repeat (first | (with_reducible first | exact HB.out | apply below_alloc | apply pw_below_drewN | apply below_drew1 | refine below_set ?_ GE334.out) | exact HB.out))) : w.heap.size ≤ gb348)); have n8_ := Aside0.mk ((by rw [hg]; exact (below_size (by repeat (first | (with_reducible first | exact HB.out | apply below_alloc | apply pw_below_drewN | apply below_drew1 | refine below_set ?_ GE334.out) | exact HB.out))) : w.heap.size ≤ gb348)); have n9_ := Aside0.mk ((by rw [hg]; exact Nat.ne_of_lt (blk_lt (g := gb334) (o := .cells #[.slice Ao12 t330.length co12, .int .i64 t333] 40 (0, 0)) (by (with_reducible repeat (first | refine blk_drewN ?_ _ | refine blk_drew ?_ | refine blk_alloc ?_ _)); exact BK334.out)) : gb334 ≠ gb348)); have n10_ := Aside0.mk ((by rw [hg]; exact Nat.ne_of_gt (blk_lt (g := gb334) (o := .cells #[.slice Ao12 t330.length co12, .int .i64 t333] 40 (0, 0)) (by (with_reducible repeat (first | refine blk_drewN ?_ _ | refine blk_drew ?_ | refine blk_alloc ?_ _)); exact BK334.out)) : gb348 ≠ gb334)); clear HO_6; clear HO_8; clear HO_9; clear HO_335000; clear BK334; clear HB; have HO_6 := n0_; have HO_8 := n1_; have HO_9 := n2_; have HO_335000 := n3_; have BK334 := n4_; have HB := n5_; have BK348 := n6_; have GW348 := n7_; have GE348 := n8_; have NB334_348 := n9_; have NB348_334 := n10_; clear n0_ n1_ n2_ n3_ n4_ n5_ n6_ n7_ n8_ n9_ n10_; clear hb hbox hg; have hnb40 := NB348_334.out; have hnc40 := NB334_348.out; have hcz41_0 : w39.cell? ⟨gb348, 0, none⟩ = some (.int .i64 0) := (blk_cell BK348.out 0).trans rfl; have hcz41_1 : w39.cell? ⟨gb348, 1, none⟩ = some (.int .i64 0) := (blk_cell BK348.out 1).trans rfl; have hfz41_0 := blk_frozen BK348.out 0; have hfz41_1 := blk_frozen BK348.out 1; obtain ⟨Ao42, co42, eo42⟩ := Kd.R_slice HO_8.out; subst eo42))
           have n0_ : Aside0 (Kd.R k58 58 ((w39.setCell ⟨gb348, 0, none⟩ (.int .i64 0)).setCell ⟨gb348, 1, none⟩ (.int .i64 0)) w.heap.size (fun k_ => some k_ ≠ (.slice Ao12 t330.length co12 : Value).ownBlock) (.slice Ao9 t327.length co9) t327) := ⟨by (with_reducible repeat (first | apply Kd.R_alloc | apply Kd.R_drewN | apply Kd.R_drew)); exact Kd.R_mono (Kd.R_far (p := ⟨gb348, 1, none⟩) (Kd.R_far (p := ⟨gb348, 0, none⟩) (Kd.R_types HO_6.out BK348.out (by decide)) (fun _ hk => hk.2) (.int .i64 0)) (fun _ hk => hk.2) (.int .i64 0)) (fun _ hk => hk.1)⟩
           have n1_ : Aside0 (Kd.R k32 32 ((w39.setCell ⟨gb348, 0, none⟩ (.int .i64 0)).setCell ⟨gb348, 1, none⟩ (.int .i64 0)) w.heap.size (fun k_ => some k_ ≠ (.slice Ao26 t339.length co26 : Value).ownBlock ∧ k_ ≠ gb348) (.slice Ao42 t336.length co42) t336) := ⟨by (with_reducible repeat (first | apply Kd.R_alloc | apply Kd.R_drewN | apply Kd.R_drew)); exact Kd.R_mono (Kd.R_far (p := ⟨gb348, 1, none⟩) (Kd.R_far (p := ⟨gb348, 0, none⟩) (Kd.R_mono HO_8.out (fun k_ hk => (⟨hk, hk.2⟩ : _ ∧ k_ ≠ gb348))) (fun _ hk => hk.2) (.int .i64 0)) (fun _ hk => hk.2) (.int .i64 0)) (fun _ hk => ⟨hk.1.1, hk.1.2⟩)⟩
           have n2_ : Aside0 (Kd.R k32 32 ((w39.setCell ⟨gb348, 0, none⟩ (.int .i64 0)).setCell ⟨gb348, 1, none⟩ (.int .i64 0)) w.heap.size (fun k_ => some k_ ≠ (.slice Ao42 t336.length co42 : Value).ownBlock ∧ k_ ≠ gb348) (.slice Ao26 t339.length co26) t339) := ⟨by (with_reducible repeat (first | apply Kd.R_alloc | apply Kd.R_drewN | apply Kd.R_drew)); exact Kd.R_mono (Kd.R_far (p := ⟨gb348, 1, none⟩) (Kd.R_far (p := ⟨gb348, 0, none⟩) (Kd.R_mono HO_9.out (fun k_ hk => (⟨hk, hk.2⟩ : _ ∧ k_ ≠ gb348))) (fun _ hk => hk.2) (.int .i64 0)) (fun _ hk => hk.2) (.int .i64 0)) (fun _ hk => ⟨hk.1.1, hk.1.2⟩)⟩
           have n3_ : Aside0 (Kd.R k58 58 ((w39.setCell ⟨gb348, 0, none⟩ (.int .i64 0)).setCell ⟨gb348, 1, none⟩ (.int .i64 0)) w.heap.size (fun k_ => some k_ ≠ (.slice Ao9 t327.length co9 : Value).ownBlock) (.slice Ao12 t330.length co12) t330) := ⟨by (with_reducible repeat (first | apply Kd.R_alloc | apply Kd.R_drewN | apply Kd.R_drew)); exact Kd.R_mono (Kd.R_far (p := ⟨gb348, 1, none⟩) (Kd.R_far (p := ⟨gb348, 0, none⟩) (Kd.R_types HO_335000.out BK348.out (by decide)) (fun _ hk => hk.2) (.int .i64 0)) (fun _ hk => hk.2) (.int .i64 0)) (fun _ hk => hk.1)⟩
           have n4_ : Aside0 (((w39.setCell ⟨gb348, 0, none⟩ (.int .i64 0)).setCell ⟨gb348, 1, none⟩ (.int .i64 0)).heap[gb334]? = some (.cells #[.slice Ao12 t330.length co12, .int .i64 t333] 40 (0, 0))) := ⟨by (with_reducible repeat (first | refine blk_drewN ?_ _ | refine blk_drew ?_ | refine blk_alloc ?_ _)); refine blk_far ?_ NB334_348.out _; (with_reducible repeat (first | refine blk_drewN ?_ _ | refine blk_drew ?_ | refine blk_alloc ?_ _)); refine blk_far ?_ NB334_348.out _; (with_reducible repeat (first | refine blk_drewN ?_ _ | refine blk_drew ?_ | refine blk_alloc ?_ _)); exact BK334.out⟩
           have n5_ : Aside0 (((w39.setCell ⟨gb348, 0, none⟩ (.int .i64 0)).setCell ⟨gb348, 1, none⟩ (.int .i64 0)).heap[gb348]? = some (.cells #[.int .i64 0, .int .i64 0] 32 (0, 0))) := ⟨by (with_reducible repeat (first | refine blk_drewN ?_ _ | refine blk_drew ?_ | refine blk_alloc ?_ _)); refine blk_put (cs := #[.int .i64 0, .int .i64 0]) ?_ 1 _ rfl; (with_reducible repeat (first | refine blk_drewN ?_ _ | refine blk_drew ?_ | refine blk_alloc ?_ _)); refine blk_put (cs := #[.int .i64 0, .int .i64 0]) ?_ 0 _ rfl; (with_reducible repeat (first | refine blk_drewN ?_ _ | refine blk_drew ?_ | refine blk_alloc ?_ _)); exact BK348.out⟩
           have n6_ : Aside0 (Below w.heap.size w ((w39.setCell ⟨gb348, 0, none⟩ (.int .i64 0)).setCell ⟨gb348, 1, none⟩ (.int .i64 0))) := ⟨by repeat (first | (with_reducible first | exact HB.out | apply below_alloc | apply pw_below_drewN | apply below_drew1 | refine below_set ?_ GE334.out | refine below_set ?_ GE348.out) | exact HB.out)⟩
           (try clear HO_6)
           (try clear HO_8)
           (try clear HO_9)
           (try clear HO_335000)
           (try clear BK334)
           (try clear BK348)
           (try clear HB)
           generalize ((w39.setCell ⟨gb348, 0, none⟩ (.int .i64 0)).setCell ⟨gb348, 1, none⟩ (.int .i64 0)) = w43 at n0_ n1_ n2_ n3_ n4_ n5_ n6_ ⊢
           have HO_6 := n0_
           have HO_8 := n1_
           have HO_9 := n2_
           have HO_335000 := n3_
           have BK334 := n4_
           have BK348 := n5_
           have HB := n6_
           clear n0_ n1_ n2_ n3_ n4_ n5_ n6_
           have n0_ := Aside0.mk (Kd.R_drew HO_6.out)
           have n1_ := Aside0.mk (Kd.R_drew HO_8.out)
           have n2_ := Aside0.mk (Kd.R_drew HO_9.out)
           have n3_ := Aside0.mk (Kd.R_drew HO_335000.out)
           have n4_ := Aside0.mk (blk_drew BK334.out)
           have n5_ := Aside0.mk (blk_drew BK348.out)
           have n6_ := Aside0.mk (below_drew1 HB.out)
           clear HO_6
           clear HO_8
           clear HO_9
           clear HO_335000
           clear BK334
           clear BK348
           clear HB
           have HO_6 := n0_
           have HO_8 := n1_
           have HO_9 := n2_
           have HO_335000 := n3_
           have BK334 := n4_
           have BK348 := n5_
           have HB := n6_
           clear n0_ n1_ n2_ n3_ n4_ n5_ n6_
           have p351 : 0 ≤ (x10_2 : Int) := of_decide_eq_true (by first | (with_reducible assumption) | assumption)
           have q351 : x10_2 < (t339.length : Int) := of_decide_eq_true (by first | (with_reducible assumption) | assumption)
           obtain ⟨ad351, e351, hx351_0, hx351_1⟩ := at_T32 (Kd.R_reads' HO_9.out).2.2 x10_2 p351 q351
           cases e351
           replace p351 := eq_true p351
           replace q351 := eq_true q351
           refine start_ (n := 6) (S := fun w' => w'.cell? ⟨gb348, 0, none⟩ = some (.int .i64 0) ∧ w'.cell? ⟨gb348, 1, none⟩ = some (.int .i64 0) ∧ w'.cell? (ad351.add ((x10_2).toNat * 2)) = some (.int .i64 ((rd_T32 t339 x10_2).f0)) ∧ w'.cell? ⟨(ad351.add ((x10_2).toNat * 2)).block, (ad351.add ((x10_2).toNat * 2)).off + 1, none⟩ = some (.int .i64 ((rd_T32 t339 x10_2).f1))) (ds := []) #[false, false, false, false, false, false] (by kernel_rfl) rfl rfl ⟨(blk_cell BK348.out 0).trans rfl, (blk_cell BK348.out 1).trans rfl, hx351_0, hx351_1⟩ (fun hHeld => ?_)
           generalize w43.drew = w44 at HO_6 HO_8 HO_9 HO_335000 BK334 BK348 HB hx351_0 hx351_1 hHeld ⊢
           refine pure_ (i := 0) (N := some 53) (v := ?_) (a' := ?_) #[true, false, false, false, false, false] rfl rfl (by kernel_rfl) (fun _ _ _ h => h) (Or.inl ⟨by rfl, ?_⟩) ?_ ?_
           rotate_left
           ·intro w'
            go_simp
            with_reducible rfl
           rotate_left
           ·simp only [Act.put, List.setIfInBounds_toArray, List.set_cons_zero, List.set_cons_succ, i64_w, i32_w]
            rfl
           refine pure_ (i := 1) (N := some 54) (v := ?_) (a' := ?_) #[true, true, false, false, false, false] rfl rfl (by kernel_rfl) (fun _ _ _ h => h) (Or.inl ⟨by rfl, ?_⟩) ?_ ?_
           rotate_left
           ·intro w'
            go_simp
            with_reducible rfl
           rotate_left
           ·simp only [Act.put, List.setIfInBounds_toArray, List.set_cons_zero, List.set_cons_succ, i64_w, i32_w]
            rfl
           refine pure_ (i := 2) (N := some 55) (v := ?_) (a' := ?_) #[true, true, true, false, false, false] rfl rfl (by kernel_rfl) (fun _ _ _ h => h) (Or.inl ⟨by rfl, ?_⟩) ?_ ?_
           rotate_left
           ·intro w'
            go_simp
            with_reducible rfl
           rotate_left
           ·simp only [Act.put, List.setIfInBounds_toArray, List.set_cons_zero, List.set_cons_succ, i64_w, i32_w]
            rfl
           refine take_ (i := 3) (N := some 56) (v := ?_) (a' := ?_) #[true, true, true, true, false, false] rfl rfl (by kernel_rfl) (fun _ _ _ h => h) (Or.inl ⟨by rfl, ?_⟩) hHeld ?_ ?_
           rotate_left
           ·rintro w' ⟨s0, s1, s2, s3⟩
            go_simp
            with_reducible rfl
           rotate_left
           ·simp only [Act.put, List.setIfInBounds_toArray, List.set_cons_zero, List.set_cons_succ, i64_w, i32_w]
            rfl
           refine take_ (i := 4) (N := some 57) (v := ?_) (a' := ?_) #[true, true, true, true, true, false] rfl rfl (by kernel_rfl) (fun _ _ _ h => h) (Or.inl ⟨by rfl, ?_⟩) hHeld ?_ ?_
           rotate_left
           ·rintro w' ⟨s0, s1, s2, s3⟩
            go_simp
            with_reducible rfl
           rotate_left
           ·simp only [Act.put, List.setIfInBounds_toArray, List.set_cons_zero, List.set_cons_succ, i64_w, i32_w]
            rfl
           refine pure_ (i := 5) (N := some 58) (v := ?_) (a' := ?_) #[true, true, true, true, true, true] rfl rfl (by kernel_rfl) (fun _ _ _ h => h) (Or.inl ⟨by rfl, ?_⟩) ?_ ?_
           rotate_left
           ·intro w'
            go_simp
            with_reducible rfl
           rotate_left
           ·simp only [Act.put, List.setIfInBounds_toArray, List.set_cons_zero, List.set_cons_succ, i64_w, i32_w]
            rfl
           refine done_ (by kernel_rfl) ?_
           try go_wp2
           go_roundg k2
           case measure => have := HJ5.out; have := HK2.out; omega
           case rel => exact ⟨(wrap64 (x10_2 + 1)), (by first | rfl | (simp; done) | (simp [*]; done)), H', ⟨by have := HJ5.out; have := HK2.out; omega⟩, ⟨by (with_reducible repeat (first | apply Kd.R_alloc | apply Kd.R_drewN | apply Kd.R_drew)); exact HO_6.out⟩, ⟨by (with_reducible repeat (first | apply Kd.R_alloc | apply Kd.R_drewN | apply Kd.R_drew)); exact Kd.R_mono HO_8.out (fun _ hk => hk.1)⟩, ⟨by (with_reducible repeat (first | apply Kd.R_alloc | apply Kd.R_drewN | apply Kd.R_drew)); exact Kd.R_mono HO_9.out (fun _ hk => hk.1)⟩, ⟨by (with_reducible repeat (first | apply Kd.R_alloc | apply Kd.R_drewN | apply Kd.R_drew)); exact HO_335000.out⟩, ⟨by (with_reducible repeat (first | refine blk_drewN ?_ _ | refine blk_drew ?_ | refine blk_alloc ?_ _)); exact BK334.out⟩, ⟨by repeat (first | (with_reducible first | exact HB.out | apply below_alloc | apply pw_below_drewN | apply below_drew1 | refine below_set ?_ GE334.out | refine below_set ?_ GE348.out) | exact HB.out)⟩⟩
         ·rw [if_neg c37] at H
          exact absurd H (by simp)
       ·rw [if_neg c27] at H
        have c27b0 : decide (x10_2 < (t339.length : Int)) = false := decide_eq_false c27
        clear c27
        replace H := Option.bind_eq_some_iff.mp H
        obtain ⟨⟨t342, t345⟩, A450, H⟩ := H
        replace H : (if (wrap64 (a1)) < (t336.length : Int) then (some t326) else ((l08_same.f k2 t342 t345 t327 0).bind fun t347 => (if t347 = true then (some t326) else (some false)))) = some r := H
        have A45 := Aside0.mk A450
        clear A450
        by_cases c46 : (wrap64 (a1)) < (t336.length : Int)
        ·rw [if_pos c46] at H
         have c46b0 : decide ((wrap64 (a1)) < (t336.length : Int)) = true := decide_eq_true c46
         clear c46
         clear HLAW
         obtain rfl := Option.some.inj H
         have hcz47_0 : wr.cell? ⟨gb334, 0, none⟩ = some (.slice Ao12 t330.length co12) := (blk_cell BK334.out 0).trans rfl
         have hcz47_1 : wr.cell? ⟨gb334, 1, none⟩ = some (.int .i64 t333) := (blk_cell BK334.out 1).trans rfl
         have hfz47_0 := blk_frozen BK334.out 0
         have hfz47_1 := blk_frozen BK334.out 1
         obtain ⟨Ao48, co48, eo48⟩ := Kd.R_slice HO_8.out
         subst eo48
         go_wp2_with (first | ((with_reducible refine gate_callee (f := 23) rfl ?_); refine goesL_ (some 63) rfl rfl Try.func23 (by kernel_rfl) rfl #[.slice Ao12 t330.length co12, .int .i64 (t336.length : Int)] rfl (by (try simp only [List.map_toArray, List.map_cons, List.map_nil]); first | done | rfl | (simp only [List.length_drop, List.length_take]; rfl)) ?_; (with_reducible refine (l08_cut.calls _ _ t330 (t336.length : Int) t342 t345 _ ?side1 ?side2 A45.out).mono ?_); (case side1 => repeat (first | exact (Kd.R_reads' HO_335000.out).2.2 | (with_reducible refine Kd.C_alloc ?_ _) | (with_reducible refine Kd.C_drewN ?_ _) | (with_reducible refine Kd.C_drew ?_))); (case side2 => exact (Kd.R_reads' HO_335000.out).2.1); rintro e w49 ⟨v343, rfl, ho0, hb⟩; refine ⟨_, rfl, ?_⟩; have n0_ := Aside0.mk (Kd.R_elder' (by (with_reducible repeat (first | apply Kd.R_alloc | apply Kd.R_drewN | apply Kd.R_drew)); exact HO_6.out) (Kd.R_base ho0) hb); have n1_ := Aside0.mk (Kd.R_below (by (with_reducible repeat (first | apply Kd.R_alloc | apply Kd.R_drewN | apply Kd.R_drew)); exact HO_8.out) hb); have n2_ := Aside0.mk (Kd.R_below (by (with_reducible repeat (first | apply Kd.R_alloc | apply Kd.R_drewN | apply Kd.R_drew)); exact HO_9.out) hb); have n3_ := Aside0.mk (Kd.R_elder' (by (with_reducible repeat (first | apply Kd.R_alloc | apply Kd.R_drewN | apply Kd.R_drew)); exact HO_335000.out) (Kd.R_base ho0) hb); have n4_ := Aside0.mk (Kd.R_lower (Kd.R_new' (Kd.R_new' ho0 (Kd.R_lt (by (with_reducible repeat (first | apply Kd.R_alloc | apply Kd.R_drewN | apply Kd.R_drew)); exact HO_6.out))) (Kd.R_lt (by (with_reducible repeat (first | apply Kd.R_alloc | apply Kd.R_drewN | apply Kd.R_drew)); exact HO_335000.out))) (below_size (by repeat (first | (with_reducible first | exact HB.out | apply below_alloc | apply pw_below_drewN | apply below_drew1 | refine below_set ?_ GE334.out) | exact HB.out)))); have n5_ := Aside0.mk (blk_below (g := gb334) (o := .cells #[.slice Ao12 t330.length co12, .int .i64 t333] 40 (0, 0)) (by (with_reducible repeat (first | refine blk_drewN ?_ _ | refine blk_drew ?_ | refine blk_alloc ?_ _)); exact BK334.out) hb); have n6_ := Aside0.mk (below_step (by repeat (first | (with_reducible first | exact HB.out | apply below_alloc | apply pw_below_drewN | apply below_drew1 | refine below_set ?_ GE334.out) | exact HB.out)) hb); clear HO_6; clear HO_8; clear HO_9; clear HO_335000; clear BK334; clear HB; have HO_6 := n0_; have HO_8 := n1_; have HO_9 := n2_; have HO_335000 := n3_; have HO344 := n4_; have BK334 := n5_; have HB := n6_; clear n0_ n1_ n2_ n3_ n4_ n5_ n6_; (try clear hb); (try clear hb2); (try clear hk); (try clear hi); (try clear ho0)) | ((with_reducible refine gate_dst (N := 12) rfl ?_); refine box_event ?hg (N := 12) ?hd (cs := #[.slice none 0 0, .int .i64 0]) (t := 40) ?hr ?_; (case hd => rfl); (case hg => rfl); (case hr => first | (go_simp; done) | (go_simp; rfl)); intro gb346 hg w50 hbox hb; have n0_ := Aside0.mk (Kd.R_below (by (with_reducible repeat (first | apply Kd.R_alloc | apply Kd.R_drewN | apply Kd.R_drew)); exact HO_6.out) hb); have n1_ := Aside0.mk (Kd.R_below (by (with_reducible repeat (first | apply Kd.R_alloc | apply Kd.R_drewN | apply Kd.R_drew)); exact HO_8.out) hb); have n2_ := Aside0.mk (Kd.R_below (by (with_reducible repeat (first | apply Kd.R_alloc | apply Kd.R_drewN | apply Kd.R_drew)); exact HO_9.out) hb); have n3_ := Aside0.mk (Kd.R_below (by (with_reducible repeat (first | apply Kd.R_alloc | apply Kd.R_drewN | apply Kd.R_drew)); exact HO_335000.out) hb); have n4_ := Aside0.mk (Kd.R_below (by (with_reducible repeat (first | apply Kd.R_alloc | apply Kd.R_drewN | apply Kd.R_drew)); exact HO344.out) hb); have n5_ := Aside0.mk (blk_below (g := gb334) (o := .cells #[.slice Ao12 t330.length co12, .int .i64 t333] 40 (0, 0)) (by (with_reducible repeat (first | refine blk_drewN ?_ _ | refine blk_drew ?_ | refine blk_alloc ?_ _)); exact BK334.out) hb); have n6_ := Aside0.mk (below_step (by repeat (first | (with_reducible first | exact HB.out | apply below_alloc | apply pw_below_drewN | apply below_drew1 | refine below_set ?_ GE334.out) | exact HB.out)) hb); have n7_ := Aside0.mk (hbox); have n8_ := Aside0.mk ((by rw [hg]; exact (below_size (by repeat (first | (with_reducible first | exact HB.out | apply below_alloc | apply pw_below_drewN | apply below_drew1 | refine below_set ?_ GE334.out) | exact HB.out))) : w.heap.size ≤ gb346)); have n9_ := Aside0.mk ((by rw [hg]; exact (below_size (by repeat (first | (with_reducible first | exact HB.out | apply below_alloc | apply pw_below_drewN | apply below_drew1 | refine below_set ?_ GE334.out) | exact HB.out))) : w.heap.size ≤ gb346)); have n10_ := Aside0.mk ((by rw [hg]; exact Nat.ne_of_lt (blk_lt (g := gb334) (o := .cells #[.slice Ao12 t330.length co12, .int .i64 t333] 40 (0, 0)) (by (with_reducible repeat (first | refine blk_drewN ?_ _ | refine blk_drew ?_ | refine blk_alloc ?_ _)); exact BK334.out)) : gb334 ≠ gb346)); have n11_ := Aside0.mk ((by rw [hg]; exact Nat.ne_of_gt (blk_lt (g := gb334) (o := .cells #[.slice Ao12 t330.length co12, .int .i64 t333] 40 (0, 0)) (by (with_reducible repeat (first | refine blk_drewN ?_ _ | refine blk_drew ?_ | refine blk_alloc ?_ _)); exact BK334.out)) : gb346 ≠ gb334)); clear HO_6; clear HO_8; clear HO_9; clear HO_335000; clear HO344; clear BK334; clear HB; have HO_6 := n0_; have HO_8 := n1_; have HO_9 := n2_; have HO_335000 := n3_; have HO344 := n4_; have BK334 := n5_; have HB := n6_; have BK346 := n7_; have GW346 := n8_; have GE346 := n9_; have NB334_346 := n10_; have NB346_334 := n11_; clear n0_ n1_ n2_ n3_ n4_ n5_ n6_ n7_ n8_ n9_ n10_ n11_; clear hb hbox hg; obtain ⟨Ao51, co51, eo51⟩ := Kd.R_slice HO344.out; subst eo51; have hnb52 := NB346_334.out; have hnc52 := NB334_346.out; have hcz53_0 : w50.cell? ⟨gb346, 0, none⟩ = some (.slice none 0 0) := (blk_cell BK346.out 0).trans rfl; have hcz53_1 : w50.cell? ⟨gb346, 1, none⟩ = some (.int .i64 0) := (blk_cell BK346.out 1).trans rfl; have hfz53_0 := blk_frozen BK346.out 0; have hfz53_1 := blk_frozen BK346.out 1))
         go_ret
         exact ⟨by first | rfl | (simp [errW_none, errW_some] <;> rfl) | (simp [*, errW_none, errW_some] <;> rfl) | (exfalso; simp_all only [aside0_iff, Option.some.injEq, reduceCtorEq]), by repeat (first | (with_reducible first | exact HB.out | apply below_alloc | apply pw_below_drewN | apply below_drew1 | refine below_set ?_ GE334.out | refine below_set ?_ GE346.out) | exact HB.out)⟩
        ·rw [if_neg c46] at H
         have c46b0 : decide ((wrap64 (a1)) < (t336.length : Int)) = false := decide_eq_false c46
         clear c46
         replace H := Option.bind_eq_some_iff.mp H
         obtain ⟨t347, A540, H⟩ := H
         replace H : (if t347 = true then (some t326) else (some false)) = some r := H
         have A54 := Aside0.mk A540
         clear A540
         by_cases c55 : t347 = true
         ·subst c55
          have H1 : (some t326) = some r := by rw [if_pos rfl] at H; exact H
          clear H
          have H := H1
          clear H1
          clear HLAW
          obtain rfl := Option.some.inj H
          have hcz56_0 : wr.cell? ⟨gb334, 0, none⟩ = some (.slice Ao12 t330.length co12) := (blk_cell BK334.out 0).trans rfl
          have hcz56_1 : wr.cell? ⟨gb334, 1, none⟩ = some (.int .i64 t333) := (blk_cell BK334.out 1).trans rfl
          have hfz56_0 := blk_frozen BK334.out 0
          have hfz56_1 := blk_frozen BK334.out 1
          obtain ⟨Ao57, co57, eo57⟩ := Kd.R_slice HO_8.out
          subst eo57
          go_wp2_with (first | ((with_reducible refine gate_callee (f := 23) rfl ?_); refine goesL_ (some 63) rfl rfl Try.func23 (by kernel_rfl) rfl #[.slice Ao12 t330.length co12, .int .i64 (t336.length : Int)] rfl (by (try simp only [List.map_toArray, List.map_cons, List.map_nil]); first | done | rfl | (simp only [List.length_drop, List.length_take]; rfl)) ?_; (with_reducible refine (l08_cut.calls _ _ t330 (t336.length : Int) t342 t345 _ ?side1 ?side2 A45.out).mono ?_); (case side1 => repeat (first | exact (Kd.R_reads' HO_335000.out).2.2 | (with_reducible refine Kd.C_alloc ?_ _) | (with_reducible refine Kd.C_drewN ?_ _) | (with_reducible refine Kd.C_drew ?_))); (case side2 => exact (Kd.R_reads' HO_335000.out).2.1); rintro e w58 ⟨v343, rfl, ho0, hb⟩; refine ⟨_, rfl, ?_⟩; have n0_ := Aside0.mk (Kd.R_elder' (by (with_reducible repeat (first | apply Kd.R_alloc | apply Kd.R_drewN | apply Kd.R_drew)); exact HO_6.out) (Kd.R_base ho0) hb); have n1_ := Aside0.mk (Kd.R_below (by (with_reducible repeat (first | apply Kd.R_alloc | apply Kd.R_drewN | apply Kd.R_drew)); exact HO_8.out) hb); have n2_ := Aside0.mk (Kd.R_below (by (with_reducible repeat (first | apply Kd.R_alloc | apply Kd.R_drewN | apply Kd.R_drew)); exact HO_9.out) hb); have n3_ := Aside0.mk (Kd.R_elder' (by (with_reducible repeat (first | apply Kd.R_alloc | apply Kd.R_drewN | apply Kd.R_drew)); exact HO_335000.out) (Kd.R_base ho0) hb); have n4_ := Aside0.mk (Kd.R_lower (Kd.R_new' (Kd.R_new' ho0 (Kd.R_lt (by (with_reducible repeat (first | apply Kd.R_alloc | apply Kd.R_drewN | apply Kd.R_drew)); exact HO_6.out))) (Kd.R_lt (by (with_reducible repeat (first | apply Kd.R_alloc | apply Kd.R_drewN | apply Kd.R_drew)); exact HO_335000.out))) (below_size (by repeat (first | (with_reducible first | exact HB.out | apply below_alloc | apply pw_below_drewN | apply below_drew1 | refine below_set ?_ GE334.out) | exact HB.out)))); have n5_ := Aside0.mk (blk_below (g := gb334) (o := .cells #[.slice Ao12 t330.length co12, .int .i64 t333] 40 (0, 0)) (by (with_reducible repeat (first | refine blk_drewN ?_ _ | refine blk_drew ?_ | refine blk_alloc ?_ _)); exact BK334.out) hb); have n6_ := Aside0.mk (below_step (by repeat (first | (with_reducible first | exact HB.out | apply below_alloc | apply pw_below_drewN | apply below_drew1 | refine below_set ?_ GE334.out) | exact HB.out)) hb); clear HO_6; clear HO_8; clear HO_9; clear HO_335000; clear BK334; clear HB; have HO_6 := n0_; have HO_8 := n1_; have HO_9 := n2_; have HO_335000 := n3_; have HO344 := n4_; have BK334 := n5_; have HB := n6_; clear n0_ n1_ n2_ n3_ n4_ n5_ n6_; (try clear hb); (try clear hb2); (try clear hk); (try clear hi); (try clear ho0)) | ((with_reducible refine gate_dst (N := 12) rfl ?_); refine box_event ?hg (N := 12) ?hd (cs := #[.slice none 0 0, .int .i64 0]) (t := 40) ?hr ?_; (case hd => rfl); (case hg => rfl); (case hr => first | (go_simp; done) | (go_simp; rfl)); intro gb346 hg w59 hbox hb; have n0_ := Aside0.mk (Kd.R_below (by (with_reducible repeat (first | apply Kd.R_alloc | apply Kd.R_drewN | apply Kd.R_drew)); exact HO_6.out) hb); have n1_ := Aside0.mk (Kd.R_below (by (with_reducible repeat (first | apply Kd.R_alloc | apply Kd.R_drewN | apply Kd.R_drew)); exact HO_8.out) hb); have n2_ := Aside0.mk (Kd.R_below (by (with_reducible repeat (first | apply Kd.R_alloc | apply Kd.R_drewN | apply Kd.R_drew)); exact HO_9.out) hb); have n3_ := Aside0.mk (Kd.R_below (by (with_reducible repeat (first | apply Kd.R_alloc | apply Kd.R_drewN | apply Kd.R_drew)); exact HO_335000.out) hb); have n4_ := Aside0.mk (Kd.R_below (by (with_reducible repeat (first | apply Kd.R_alloc | apply Kd.R_drewN | apply Kd.R_drew)); exact HO344.out) hb); have n5_ := Aside0.mk (blk_below (g := gb334) (o := .cells #[.slice Ao12 t330.length co12, .int .i64 t333] 40 (0, 0)) (by (with_reducible repeat (first | refine blk_drewN ?_ _ | refine blk_drew ?_ | refine blk_alloc ?_ _)); exact BK334.out) hb); have n6_ := Aside0.mk (below_step (by repeat (first | (with_reducible first | exact HB.out | apply below_alloc | apply pw_below_drewN | apply below_drew1 | refine below_set ?_ GE334.out) | exact HB.out)) hb); have n7_ := Aside0.mk (hbox); have n8_ := Aside0.mk ((by rw [hg]; exact (below_size (by repeat (first | (with_reducible first | exact HB.out | apply below_alloc | apply pw_below_drewN | apply below_drew1 | refine below_set ?_ GE334.out) | exact HB.out))) : w.heap.size ≤ gb346)); have n9_ := Aside0.mk ((by rw [hg]; exact (below_size (by repeat (first | (with_reducible first | exact HB.out | apply below_alloc | apply pw_below_drewN | apply below_drew1 | refine below_set ?_ GE334.out) | exact HB.out))) : w.heap.size ≤ gb346)); have n10_ := Aside0.mk ((by rw [hg]; exact Nat.ne_of_lt (blk_lt (g := gb334) (o := .cells #[.slice Ao12 t330.length co12, .int .i64 t333] 40 (0, 0)) (by (with_reducible repeat (first | refine blk_drewN ?_ _ | refine blk_drew ?_ | refine blk_alloc ?_ _)); exact BK334.out)) : gb334 ≠ gb346)); have n11_ := Aside0.mk ((by rw [hg]; exact Nat.ne_of_gt (blk_lt (g := gb334) (o := .cells #[.slice Ao12 t330.length co12, .int .i64 t333] 40 (0, 0)) (by (with_reducible repeat (first | refine blk_drewN ?_ _ | refine blk_drew ?_ | refine blk_alloc ?_ _)); exact BK334.out)) : gb346 ≠ gb334)); clear HO_6; clear HO_8; clear HO_9; clear HO_335000; clear HO344; clear BK334; clear HB; have HO_6 := n0_; have HO_8 := n1_; have HO_9 := n2_; have HO_335000 := n3_; have HO344 := n4_; have BK334 := n5_; have HB := n6_; have BK346 := n7_; have GW346 := n8_; have GE346 := n9_; have NB334_346 := n10_; have NB346_334 := n11_; clear n0_ n1_ n2_ n3_ n4_ n5_ n6_ n7_ n8_ n9_ n10_ n11_; clear hb hbox hg; obtain ⟨Ao60, co60, eo60⟩ := Kd.R_slice HO344.out; subst eo60; have hnb61 := NB346_334.out; have hnc61 := NB334_346.out; have hcz62_0 : w59.cell? ⟨gb346, 0, none⟩ = some (.slice none 0 0) := (blk_cell BK346.out 0).trans rfl; have hcz62_1 : w59.cell? ⟨gb346, 1, none⟩ = some (.int .i64 0) := (blk_cell BK346.out 1).trans rfl; have hfz62_0 := blk_frozen BK346.out 0; have hfz62_1 := blk_frozen BK346.out 1) | (go_at_call 22; (with_reducible refine (l08_same.calls k2 _ _ t342 t345 _ _ t327 0 true _ ?side1 ?side2 ?side3 ?side4 A54.out).mono ?_); (case side1 => refine (Kd.R_reads' (e := 58) (base := w.heap.size) (ok := fun k_ => ((True ∧ some k_ ≠ (.slice Ao9 t327.length co9 : Value).ownBlock) ∧ some k_ ≠ (.slice Ao12 t330.length co12 : Value).ownBlock)) (n := t342.length) (c := co60) ?_).2.2; exact (by (with_reducible repeat (first | apply Kd.R_alloc | apply Kd.R_drewN | apply Kd.R_drew)); exact (Kd.R_mono (Kd.R_far (p := ⟨gb346, 1, none⟩) (Kd.R_far (p := ⟨gb346, 0, none⟩) (Kd.R_types HO344.out BK346.out (by decide)) (fun _ hk => hk.2) (.slice Ao60 t342.length co60)) (fun _ hk => hk.2) (.int .i64 t345)) (fun _ h_ => h_.1)))); (case side2 => exact (Kd.R_reads' HO344.out).2.1); (case side3 => refine (Kd.R_reads' (e := 58) (base := w.heap.size) (ok := fun k_ => (some k_ ≠ (.slice Ao12 t330.length co12 : Value).ownBlock ∧ some k_ ≠ (.slice Ao60 t342.length co60 : Value).ownBlock)) (n := t327.length) (c := co9) ?_).2.2; exact (by (with_reducible repeat (first | apply Kd.R_alloc | apply Kd.R_drewN | apply Kd.R_drew)); exact (Kd.R_mono (Kd.R_far (p := ⟨gb346, 1, none⟩) (Kd.R_far (p := ⟨gb346, 0, none⟩) (Kd.R_types HO_6.out BK346.out (by decide)) (fun _ hk => hk.2) (.slice Ao60 t342.length co60)) (fun _ hk => hk.2) (.int .i64 t345)) (fun _ h_ => h_.1)))); (case side4 => exact (Kd.R_reads' HO_6.out).2.1); rintro e w63 ⟨rfl, hb⟩; have n0_ := Aside0.mk (Kd.R_below (by (with_reducible repeat (first | apply Kd.R_alloc | apply Kd.R_drewN | apply Kd.R_drew)); exact (Kd.R_mono (Kd.R_far (p := ⟨gb346, 1, none⟩) (Kd.R_far (p := ⟨gb346, 0, none⟩) (Kd.R_types HO_6.out BK346.out (by decide)) (fun _ hk => hk.2) (.slice Ao60 t342.length co60)) (fun _ hk => hk.2) (.int .i64 t345)) (fun _ h_ => h_.1))) hb); have n1_ := Aside0.mk (Kd.R_below (by (with_reducible repeat (first | apply Kd.R_alloc | apply Kd.R_drewN | apply Kd.R_drew)); exact (Kd.R_mono (Kd.R_far (p := ⟨gb346, 1, none⟩) (Kd.R_far (p := ⟨gb346, 0, none⟩) (Kd.R_types HO_8.out BK346.out (by decide)) (fun _ hk => hk.2) (.slice Ao60 t342.length co60)) (fun _ hk => hk.2) (.int .i64 t345)) (fun _ h_ => h_.1))) hb); have n2_ := Aside0.mk (Kd.R_below (by (with_reducible repeat (first | apply Kd.R_alloc | apply Kd.R_drewN | apply Kd.R_drew)); exact (Kd.R_mono (Kd.R_far (p := ⟨gb346, 1, none⟩) (Kd.R_far (p := ⟨gb346, 0, none⟩) (Kd.R_types HO_9.out BK346.out (by decide)) (fun _ hk => hk.2) (.slice Ao60 t342.length co60)) (fun _ hk => hk.2) (.int .i64 t345)) (fun _ h_ => h_.1))) hb); have n3_ := Aside0.mk (Kd.R_below (by (with_reducible repeat (first | apply Kd.R_alloc | apply Kd.R_drewN | apply Kd.R_drew)); exact (Kd.R_mono (Kd.R_far (p := ⟨gb346, 1, none⟩) (Kd.R_far (p := ⟨gb346, 0, none⟩) (Kd.R_types HO_335000.out BK346.out (by decide)) (fun _ hk => hk.2) (.slice Ao60 t342.length co60)) (fun _ hk => hk.2) (.int .i64 t345)) (fun _ h_ => h_.1))) hb); have n4_ := Aside0.mk (Kd.R_below (by (with_reducible repeat (first | apply Kd.R_alloc | apply Kd.R_drewN | apply Kd.R_drew)); exact (Kd.R_mono (Kd.R_far (p := ⟨gb346, 1, none⟩) (Kd.R_far (p := ⟨gb346, 0, none⟩) (Kd.R_types HO344.out BK346.out (by decide)) (fun _ hk => hk.2) (.slice Ao60 t342.length co60)) (fun _ hk => hk.2) (.int .i64 t345)) (fun _ h_ => h_.1))) hb); have n5_ := Aside0.mk (blk_below (g := gb334) (o := .cells #[.slice Ao12 t330.length co12, .int .i64 t333] 40 (0, 0)) (by (with_reducible repeat (first | refine blk_drewN ?_ _ | refine blk_drew ?_ | refine blk_alloc ?_ _)); refine blk_far ?_ NB334_346.out _; (with_reducible repeat (first | refine blk_drewN ?_ _ | refine blk_drew ?_ | refine blk_alloc ?_ _)); refine blk_far ?_ NB334_346.out _; (with_reducible repeat (first | refine blk_drewN ?_ _ | refine blk_drew ?_ | refine blk_alloc ?_ _)); exact BK334.out) hb); have n6_ := Aside0.mk (blk_below (g := gb346) (o := .cells #[.slice Ao60 t342.length co60, .int .i64 t345] 40 (0, 0)) (by (with_reducible repeat (first | refine blk_drewN ?_ _ | refine blk_drew ?_ | refine blk_alloc ?_ _)); refine blk_put (cs := #[.slice Ao60 t342.length co60, .int .i64 0]) ?_ 1 _ rfl; (with_reducible repeat (first | refine blk_drewN ?_ _ | refine blk_drew ?_ | refine blk_alloc ?_ _)); refine blk_put (cs := #[.slice none 0 0, .int .i64 0]) ?_ 0 _ rfl; (with_reducible repeat (first | refine blk_drewN ?_ _ | refine blk_drew ?_ | refine blk_alloc ?_ _)); exact BK346.out) hb); have n7_ := Aside0.mk (below_step (by repeat (first | (with_reducible first | exact HB.out | apply below_alloc | apply pw_below_drewN | apply below_drew1 | refine below_set ?_ GE334.out | refine below_set ?_ GE346.out) | exact HB.out)) hb); clear HO_6; clear HO_8; clear HO_9; clear HO_335000; clear HO344; clear BK334; clear BK346; clear HB; have HO_6 := n0_; have HO_8 := n1_; have HO_9 := n2_; have HO_335000 := n3_; have HO344 := n4_; have BK334 := n5_; have BK346 := n6_; have HB := n7_; clear n0_ n1_ n2_ n3_ n4_ n5_ n6_ n7_; (try clear hb); (try clear hb2); (try clear hk); (try clear hi)))
          go_ret
          exact ⟨by first | rfl | (simp [errW_none, errW_some] <;> rfl) | (simp [*, errW_none, errW_some] <;> rfl) | (exfalso; simp_all only [aside0_iff, Option.some.injEq, reduceCtorEq]), by repeat (first | (with_reducible first | exact HB.out | apply below_alloc | apply pw_below_drewN | apply below_drew1 | refine below_set ?_ GE334.out | refine below_set ?_ GE346.out) | exact HB.out)⟩
         ·replace c55 := Bool.eq_false_iff.mpr c55
          subst c55
          have H1 : (some false) = some r := by rw [if_neg (show ¬ (false = true) by decide)] at H; exact H
          clear H
          have H := H1
          clear H1
          exact absurd ((Option.some.inj H).trans HLAW.out) (by decide)
    ·rw [if_neg c22] at H
     have c22b0 : ((t339.length : Int) == (wrap64 (a1))) = false := beq_eq_false_iff_ne.mpr c22
     have c22b1 : ((t339.length : Int) != (wrap64 (a1))) = true := bne_iff_ne.mpr c22
     exact absurd ((Option.some.inj H).trans HLAW.out) (by decide)

/-- THE ONE PURE STATEMENT of l08_ExtentCuts: yours. -/
def l08_ExtentCuts.Pure : Prop := ∀ (l0 : List (S37)) (a1 : Int), (l0.length ≤ maxLen ∧ l0.length * 3 ≤ 140737488351232 ∧ ∀ x1_ ∈ l0, ((Lit.int .u8 x1_.f0).wf = true) ∧ (((Lit.int .u8 x1_.f1).wf = true) ∧ ((Lit.int .u8 x1_.f2).wf = true))) → ((Lit.int .u8 a1).wf = true) → ∃ k, l08_ExtentCuts.f k l0 a1 = some true

-- NOT PRINTED: function 24 (l08_blobs)

/-! ### r08_Blob: function 26 -/
def r08_Blob.l0 : Nat → List (S69) → Int → Int → Option (List Int × Bool)
 | 0, _, _, _ => none
 | k + 1, x0, x1, x6 => if x6 < (x0.length : Int) then (if 0 ≤ x6 then (if ((rd_T69 x0 x6).f0) = x1 then (some ((rd_T69 x0 x6).f1, true)) else (r08_Blob.l0 k x0 x1 (wrap64 (x6 + 1)))) else (none)) else (some (([] : List Int), false))
def r08_Blob.f (k : Nat) (l0 : List (S69)) (a1 : Int) : Option (List Int × Bool) := r08_Blob.l0 k l0 a1 0
theorem r08_Blob.mono_l : ∀ k, (∀ y0 y1 y2, LeO (r08_Blob.l0 k y0 y1 y2) (r08_Blob.l0 (k + 1) y0 y1 y2))
 | 0 => fun _ _ _ r h => by simp [r08_Blob.l0] at h
 | k + 1 => by
  have ih0 := r08_Blob.mono_l k
  ·intro y0 y1 y2
   unfold r08_Blob.l0
   repeat' first
   | (with_reducible exact ih0 _ _ _)
   | (with_reducible exact LeO.refl _)
   | (with_reducible exact LeO.none _)
   | (with_reducible refine LeO.ite ?_ ?_)
   | (with_reducible refine LeO.bind ?_ (fun _ => ?_))
   | exact ih0 _ _ _
   | exact LeO.none _
   | refine LeO.ite ?_ ?_
   | refine LeO.bind ?_ (fun _ => ?_)
theorem r08_Blob.mono : ∀ a0 a1 k, LeO (r08_Blob.f k a0 a1) (r08_Blob.f (k + 1) a0 a1) := by
 intro a0 a1 k
 have ih0 := r08_Blob.mono_l k
 unfold r08_Blob.f
 repeat' first
   | (with_reducible exact ih0 _ _ _)
   | (with_reducible exact LeO.refl _)
   | (with_reducible exact LeO.none _)
   | (with_reducible refine LeO.ite ?_ ?_)
   | (with_reducible refine LeO.bind ?_ (fun _ => ?_))
   | exact ih0 _ _ _
   | exact LeO.none _
   | refine LeO.ite ?_ ?_
   | refine LeO.bind ?_ (fun _ => ?_)
set_option maxHeartbeats 8000000 in
set_option maxRecDepth 100000 in
theorem r08_Blob.calls (k : Nat) (P0_ : Nat → Prop) (A0 : Option Addr) (c0 : Nat) (l0 : List (S69)) (a1 : Int) (r1 : List Int) (r2 : Bool) (w : World) (hs0 : Kd.V k69 69 w w.heap.size (fun k_ => P0_ k_) (.slice A0 l0.length c0) l0) (h : r08_Blob.f k l0 a1 = some (r1, r2)) :
  Calls Try.prog 26 #[.slice A0 l0.length c0, .int .i64 a1] w fun e w' => ∃ v0_ : Value, e = .returned (.tuple #[v0_, .bool r2]) ∧ Kd.V (Kd.int .u8) 5 w' w.heap.size (fun k_ => (P0_ k_ ∨ w.heap.size ≤ k_)) v0_ r1 ∧ Below w.heap.size w w' := by
 have HO0 := Aside0.mk (show Kd.V k69 69 w w.heap.size (fun k_ => (P0_ k_ ∨ w.heap.size ≤ k_)) (.slice A0 l0.length c0) l0 from Kd.V_mono hs0 (fun k_ hk => .inl hk))
 have HB := Aside0.mk (Below.refl w.heap.size w)
 have H : (r08_Blob.l0 k l0 a1 0) = some (r1, r2) := h
 clear h
 have H' := Aside0.mk H
 clear H
 go_enter Try.func26, Try.ntmps26
 go_wp2
 go_loopg [6] k (fun kq v6 w' => ∃ (x6_1 : Int), v6 = .int .i64 x6_1 ∧ Aside0 (r08_Blob.l0 kq l0 a1 x6_1 = some (r1, r2)) ∧ Aside0 (kq ≤ k) ∧ Aside0 (Kd.V k69 69 w' w.heap.size (fun k_ => (P0_ k_ ∨ w.heap.size ≤ k_)) (.slice A0 l0.length c0) l0) ∧ Aside0 (Below w.heap.size w w'))
 case atStart => exact ⟨(0), (by first | rfl | (simp; done) | (simp [*]; done)), H', ⟨Nat.le_refl _⟩, ⟨by (with_reducible repeat (first | apply Kd.V_alloc | apply Kd.V_drewN | apply Kd.V_drew)); exact HO0.out⟩, ⟨by repeat (first | (with_reducible first | exact HB.out | apply below_alloc | apply pw_below_drewN | apply below_drew1) | exact HB.out)⟩⟩
 case round =>
  clear H'
  try clear c2
  try clear p2
  obtain ⟨x6_1, rfl, HA, HK1, HO_0, HB⟩ := hrel
  cases gk with
  | zero => exact absurd HA.out (by simp [r08_Blob.l0])
  | succ k1 =>
   have H := HA.out
   clear HA
   simp only [r08_Blob.l0] at H
   by_cases c3 : x6_1 < (l0.length : Int)
   ·rw [if_pos c3] at H
    have c3b0 : decide (x6_1 < (l0.length : Int)) = true := decide_eq_true c3
    clear c3
    by_cases c4 : 0 ≤ x6_1
    ·rw [if_pos c4] at H
     have c4b0 : decide (0 ≤ x6_1) = true := decide_eq_true c4
     clear c4
     by_cases c5 : ((rd_T69 l0 x6_1).f0) = a1
     ·rw [if_pos c5] at H
      have c5b0 : (((rd_T69 l0 x6_1).f0) == a1) = true := beq_iff_eq.mpr c5
      have c5b1 : (((rd_T69 l0 x6_1).f0) != a1) = false := bne_eq_false_iff_eq.mpr c5
      clear c5
      simp only [Option.some.injEq, Prod.mk.injEq] at H
      obtain ⟨rfl, rfl⟩ := H
      have p359 : 0 ≤ (x6_1 : Int) := of_decide_eq_true (by first | (with_reducible assumption) | assumption)
      have q359 : x6_1 < (l0.length : Int) := of_decide_eq_true (by first | (with_reducible assumption) | assumption)
      obtain ⟨ad359, A359_1, c359_1, e359, hx359_0, hx359_1, hl359_1, hi359_1⟩ := at_T69 (Kd.V_reads' HO_0.out).2.2 x6_1 p359 q359
      cases e359
      obtain ⟨ce359, hce359, hMe359, hcc359⟩ := Kd.V_get HO_0.out z69 x6_1 p359 (by first | exact q359 | exact of_decide_eq_true (by first | (with_reducible assumption) | assumption) | (have e_ := (Kd.V_reads' HO_0.out).1; omega))
      obtain ⟨ua359_1, uc359_1, rfl, ul359_1, ge359_1⟩ := k69_openF hMe359
      have hv359_1 := hcc359 1 _ rfl
      rw [add_field _ _ 1 (by omega)] at hv359_1
      replace hv359_1 := Option.some.inj (hv359_1.symm.trans hx359_1)
      injection hv359_1 with hva_ hvn_ hvc_
      rw [hva_] at ge359_1
      rw [hvc_] at ul359_1
      have HL359_1 := Aside0.mk (show Kd.V (Kd.int .u8) 5 _ w.heap.size _ _ ((rd_T69 l0 x6_1).f1) from Kd.V_mk ul359_1 ge359_1)
      clear hva_ hvn_ hvc_ ge359_1 ul359_1
      clear hcc359 hce359
      have HR359_1 := Aside0.mk hi359_1
      have HC359_1 := Aside0.mk hl359_1
      clear hi359_1 hl359_1
      replace p359 := eq_true p359
      replace q359 := eq_true q359
      have p360 : 0 ≤ (x6_1 : Int) := of_decide_eq_true (by first | (with_reducible assumption) | assumption)
      have q360 : x6_1 < (l0.length : Int) := of_decide_eq_true (by first | (with_reducible assumption) | assumption)
      obtain ⟨ad360, A360_1, c360_1, e360, hx360_0, hx360_1, hl360_1, hi360_1⟩ := at_T69 (Kd.V_reads' HO_0.out).2.2 x6_1 p360 q360
      obtain rfl : ad359 = ad360 := (by injection e360)
      obtain ⟨ce360, hce360, hMe360, hcc360⟩ := Kd.V_get HO_0.out z69 x6_1 p360 (by first | exact q360 | exact of_decide_eq_true (by first | (with_reducible assumption) | assumption) | (have e_ := (Kd.V_reads' HO_0.out).1; omega))
      obtain ⟨ua360_1, uc360_1, rfl, ul360_1, ge360_1⟩ := k69_openF hMe360
      have hv360_1 := hcc360 1 _ rfl
      rw [add_field _ _ 1 (by omega)] at hv360_1
      replace hv360_1 := Option.some.inj (hv360_1.symm.trans hx360_1)
      injection hv360_1 with hva_ hvn_ hvc_
      rw [hva_] at ge360_1
      rw [hvc_] at ul360_1
      have HL360_1 := Aside0.mk (show Kd.V (Kd.int .u8) 5 _ w.heap.size _ _ ((rd_T69 l0 x6_1).f1) from Kd.V_mk ul360_1 ge360_1)
      clear hva_ hvn_ hvc_ ge360_1 ul360_1
      clear hcc360 hce360
      have HR360_1 := Aside0.mk hi360_1
      have HC360_1 := Aside0.mk hl360_1
      clear hi360_1 hl360_1
      replace p360 := eq_true p360
      replace q360 := eq_true q360
      have ea_ := Option.some.inj (hx359_1.symm.trans hx360_1)
      injection ea_ with ea_ en_ ec_
      subst ea_
      subst ec_
      clear en_
      go_wp2
      go_ret2
      exact ⟨_, by first | rfl | (simp [errW_none, errW_some] <;> rfl) | (simp [*, errW_none, errW_some] <;> rfl) | (exfalso; simp_all only [aside0_iff, Option.some.injEq, reduceCtorEq]), by (with_reducible repeat (first | apply Kd.V_alloc | apply Kd.V_drewN | apply Kd.V_drew)); exact HL360_1.out, by repeat (first | (with_reducible first | exact HB.out | apply below_alloc | apply pw_below_drewN | apply below_drew1) | exact HB.out)⟩
     ·rw [if_neg c5] at H
      have c5b0 : (((rd_T69 l0 x6_1).f0) == a1) = false := beq_eq_false_iff_ne.mpr c5
      have c5b1 : (((rd_T69 l0 x6_1).f0) != a1) = true := bne_iff_ne.mpr c5
      have H' := Aside0.mk H
      clear H
      have p359 : 0 ≤ (x6_1 : Int) := of_decide_eq_true (by first | (with_reducible assumption) | assumption)
      have q359 : x6_1 < (l0.length : Int) := of_decide_eq_true (by first | (with_reducible assumption) | assumption)
      obtain ⟨ad359, A359_1, c359_1, e359, hx359_0, hx359_1, hl359_1, hi359_1⟩ := at_T69 (Kd.V_reads' HO_0.out).2.2 x6_1 p359 q359
      cases e359
      obtain ⟨ce359, hce359, hMe359, hcc359⟩ := Kd.V_get HO_0.out z69 x6_1 p359 (by first | exact q359 | exact of_decide_eq_true (by first | (with_reducible assumption) | assumption) | (have e_ := (Kd.V_reads' HO_0.out).1; omega))
      obtain ⟨ua359_1, uc359_1, rfl, ul359_1, ge359_1⟩ := k69_openF hMe359
      have hv359_1 := hcc359 1 _ rfl
      rw [add_field _ _ 1 (by omega)] at hv359_1
      replace hv359_1 := Option.some.inj (hv359_1.symm.trans hx359_1)
      injection hv359_1 with hva_ hvn_ hvc_
      rw [hva_] at ge359_1
      rw [hvc_] at ul359_1
      have HL359_1 := Aside0.mk (show Kd.V (Kd.int .u8) 5 _ w.heap.size _ _ ((rd_T69 l0 x6_1).f1) from Kd.V_mk ul359_1 ge359_1)
      clear hva_ hvn_ hvc_ ge359_1 ul359_1
      clear hcc359 hce359
      have HR359_1 := Aside0.mk hi359_1
      have HC359_1 := Aside0.mk hl359_1
      clear hi359_1 hl359_1
      replace p359 := eq_true p359
      replace q359 := eq_true q359
      go_wp2
      go_roundg k1
      case measure => have := HK1.out; omega
      case rel => exact ⟨(wrap64 (x6_1 + 1)), (by first | rfl | (simp; done) | (simp [*]; done)), H', ⟨by have := HK1.out; omega⟩, ⟨by (with_reducible repeat (first | apply Kd.V_alloc | apply Kd.V_drewN | apply Kd.V_drew)); exact HO_0.out⟩, ⟨by repeat (first | (with_reducible first | exact HB.out | apply below_alloc | apply pw_below_drewN | apply below_drew1) | exact HB.out)⟩⟩
    ·rw [if_neg c4] at H
     exact absurd H (by simp)
   ·rw [if_neg c3] at H
    have c3b0 : decide (x6_1 < (l0.length : Int)) = false := decide_eq_false c3
    clear c3
    simp only [Option.some.injEq, Prod.mk.injEq] at H
    obtain ⟨rfl, rfl⟩ := H
    go_wp2
    go_ret2
    exact ⟨_, by first | rfl | (simp [errW_none, errW_some] <;> rfl) | (simp [*, errW_none, errW_some] <;> rfl) | (exfalso; simp_all only [aside0_iff, Option.some.injEq, reduceCtorEq]), Kd.V_mono (Kd.R_V (Kd.R_nil _ _ _ 0 (fun _ => False))) (fun k_ hk => hk.elim), by repeat (first | (with_reducible first | exact HB.out | apply below_alloc | apply pw_below_drewN | apply below_drew1) | exact HB.out)⟩

-- NOT PRINTED: function 6 (l08_ExtentBytes)

end Go.Proofs.Ytfhjbhbmbnnimaa.PE
