/- Plain Lean functions with the answers of the Go functions that these laws reach, and proofs that the calls come to them; written by this session's program. -/
import Derived.Test.YtmhpclmfacejhaaPCx0
import Derived.Test.YtmhpclmfacejhaaPCx3
namespace Go.Proofs.Ytmhpclmfacejhaa.PC
open Go.RowKit Go.Proofs.YtmhpclmfacejhaaW.PrintWords Go.Proofs.YtmhpclmfacejhaaW.PrintLast Go.Proofs.YtmhpclmfacejhaaW.PrintMore
attribute [local go_sem] max2_int min2_int max_two min_two max_three min_three max_four min_four   -- for this text's walks alone
set_option linter.unusedVariables false
set_option linter.unusedSimpArgs false

/-! ### burgagelaw16_ClockEnds: function 9 -/
def burgagelaw16_ClockEnds.l0 : Nat → Bool → Int → Int → Int → Option (Bool)
  | 0, _, _, _, _ => none
  | k + 1, x3, x4, x5, x6 => if x6 < (wrap64 (x4 + 60)) then ((clock_Holds.f x4 x6).bind fun t224 => (if t224 = true then (burgagelaw16_ClockEnds.l0 k x3 x4 x5 (wrap64 (x6 + 1))) else ((clock_Over.f x4 x6).bind fun t225 => (if t225 = true then (burgagelaw16_ClockEnds.l0 k x3 x4 x5 (wrap64 (x6 + 1))) else (burgagelaw16_ClockEnds.l0 k x3 x4 (wrap64 (x5 + 1)) (wrap64 (x6 + 1))))))) else (if x5 = 40 then ((clock_Holds.f x4 (wrap64 (x4 - 21))).bind fun t226 => (if t226 = true then ((clock_Holds.f x4 (wrap64 (x4 - 20))).bind fun t227 => (if t227 = true then (some false) else ((clock_Over.f x4 (wrap64 (x4 + 20))).bind fun t228 => (if t228 = true then ((clock_Over.f x4 (wrap64 (x4 + 19))).bind fun t229 => (if t229 = true then (some false) else (some x3))) else (some false))))) else (some false))) else (some false))
def burgagelaw16_ClockEnds.f (k : Nat) (a0 : Int) : Option (Bool) := (burgagelaw16_sanity.f k).bind fun t222 => ((burgageref16_Time.f a0).bind fun t223 => (burgagelaw16_ClockEnds.l0 k t222 t223 0 (wrap64 (t223 - 60))))
theorem burgagelaw16_ClockEnds.mono_l : ∀ k, (∀ y0 y1 y2 y3, LeO (burgagelaw16_ClockEnds.l0 k y0 y1 y2 y3) (burgagelaw16_ClockEnds.l0 (k + 1) y0 y1 y2 y3))
  | 0 => fun _ _ _ _ r h => by simp [burgagelaw16_ClockEnds.l0] at h
  | k + 1 => by
    have ih0 := burgagelaw16_ClockEnds.mono_l k
    · intro y0 y1 y2 y3
      unfold burgagelaw16_ClockEnds.l0
      repeat' first
      | (with_reducible exact ih0 _ _ _ _)
      | (with_reducible exact burgagelaw16_sanity.mono _)
      | (with_reducible exact LeO.refl _)
      | (with_reducible exact LeO.none _)
      | (with_reducible refine LeO.ite ?_ ?_)
      | (with_reducible refine LeO.bind ?_ (fun _ => ?_))
      | exact ih0 _ _ _ _
      | exact burgagelaw16_sanity.mono _
      | exact LeO.none _
      | refine LeO.ite ?_ ?_
      | refine LeO.bind ?_ (fun _ => ?_)
theorem burgagelaw16_ClockEnds.mono : ∀ a0 k, LeO (burgagelaw16_ClockEnds.f k a0) (burgagelaw16_ClockEnds.f (k + 1) a0) := by
  intro a0 k
  have ih0 := burgagelaw16_ClockEnds.mono_l k
  unfold burgagelaw16_ClockEnds.f
  repeat' first
      | (with_reducible exact ih0 _ _ _ _)
      | (with_reducible exact burgagelaw16_sanity.mono _)
      | (with_reducible exact LeO.refl _)
      | (with_reducible exact LeO.none _)
      | (with_reducible refine LeO.ite ?_ ?_)
      | (with_reducible refine LeO.bind ?_ (fun _ => ?_))
      | exact ih0 _ _ _ _
      | exact burgagelaw16_sanity.mono _
      | exact LeO.none _
      | refine LeO.ite ?_ ?_
      | refine LeO.bind ?_ (fun _ => ?_)
set_option maxHeartbeats 8000000 in
set_option maxRecDepth 100000 in
theorem burgagelaw16_ClockEnds.calls (k : Nat) (a0 : Int) (r : Bool) (w : World) (hr : r = true) (h : burgagelaw16_ClockEnds.f k a0 = some r) :
    Calls Try.prog 9 #[.int .i64 a0] w fun e w' => e = .returned (.bool r) ∧ Below w.heap.size w w' := by
  have HB := Aside0.mk (Below.refl w.heap.size w)
  have HLAW := Aside0.mk hr
  clear hr
  have H : ((burgagelaw16_sanity.f k).bind fun t222 => ((burgageref16_Time.f a0).bind fun t223 => (burgagelaw16_ClockEnds.l0 k t222 t223 0 (wrap64 (t223 - 60))))) = some r := h
  clear h
  replace H := Option.bind_eq_some_iff.mp H
  obtain ⟨t222, A20, H⟩ := H
  replace H : ((burgageref16_Time.f a0).bind fun t223 => (burgagelaw16_ClockEnds.l0 k t222 t223 0 (wrap64 (t223 - 60)))) = some r := H
  have A2 := Aside0.mk A20
  clear A20
  replace H := Option.bind_eq_some_iff.mp H
  obtain ⟨t223, A30, H⟩ := H
  replace H : (burgagelaw16_ClockEnds.l0 k t222 t223 0 (wrap64 (t223 - 60))) = some r := H
  have A3 := Aside0.mk A30
  clear A30
  have H' := Aside0.mk H
  clear H
  go_enter Try.func9, Try.ntmps9
  go_wp2_with (first | ((with_reducible refine gate_callee (f := 10) rfl ?_); refine goesL_ (some 7) rfl rfl Try.func10 (by kernel_rfl) rfl #[] rfl (by (try simp only [List.map_toArray, List.map_cons, List.map_nil]); first | done | rfl | (simp only [List.length_drop, List.length_take]; rfl)) ?_; (with_reducible refine (burgagelaw16_sanity.calls k  t222 _ A2.out).mono ?_); rintro e w4 ⟨rfl, hb⟩; refine ⟨_, rfl, ?_⟩; have n0_ := Aside0.mk (below_step (by repeat (first | (with_reducible first | exact HB.out | apply below_alloc | apply pw_below_drewN | apply below_drew1) | exact HB.out)) hb); clear HB; have HB := n0_; clear n0_; (try clear hb); (try clear hb2); (try clear hk); (try clear hi)) | ((with_reducible refine gate_callee (f := 12) rfl ?_); refine goesL_ (some 9) rfl rfl Try.func12 (by kernel_rfl) rfl #[.int .i64 a0] rfl (by (try simp only [List.map_toArray, List.map_cons, List.map_nil]); first | done | rfl | (simp only [List.length_drop, List.length_take]; rfl)) ?_; (with_reducible refine (burgageref16_Time.calls a0 t223 _ A3.out).mono ?_); rintro e w' ⟨rfl, ⟨nd, rfl⟩⟩; refine ⟨_, rfl, ?_⟩))
  go_loopg [5, 6] k (fun kq v5 v6 w' => ∃ (x5_1 : Int) (x6_1 : Int), v5 = .int .i64 x5_1 ∧ v6 = .int .i64 x6_1 ∧ Aside0 (burgagelaw16_ClockEnds.l0 kq t222 t223 x5_1 x6_1 = some r) ∧ Aside0 (kq ≤ k) ∧ Aside0 (Below w.heap.size w w'))
  case atStart => exact ⟨(0), (wrap64 (t223 - 60)), (by first | rfl | (simp; done) | (simp [*]; done)), (by first | rfl | (simp; done) | (simp [*]; done)), H', ⟨Nat.le_refl _⟩, ⟨by repeat (first | (with_reducible first | exact HB.out | apply below_alloc | apply pw_below_drewN | apply below_drew1) | exact HB.out)⟩⟩
  case round =>
    clear H'
    try clear c1
    try clear p2
    obtain ⟨x5_1, x6_1, rfl, rfl, HA, HK1, HB⟩ := hrel
    cases gk with
    | zero => exact absurd HA.out (by simp [burgagelaw16_ClockEnds.l0])
    | succ k1 =>
      have H := HA.out
      clear HA
      simp only [burgagelaw16_ClockEnds.l0] at H
      by_cases c5 : x6_1 < (wrap64 (t223 + 60))
      · rw [if_pos c5] at H
        have c5b0 : decide (x6_1 < (wrap64 (t223 + 60))) = true := decide_eq_true c5
        clear c5
        replace H := Option.bind_eq_some_iff.mp H
        obtain ⟨t224, A60, H⟩ := H
        replace H : (if t224 = true then (burgagelaw16_ClockEnds.l0 k1 t222 t223 x5_1 (wrap64 (x6_1 + 1))) else ((clock_Over.f t223 x6_1).bind fun t225 => (if t225 = true then (burgagelaw16_ClockEnds.l0 k1 t222 t223 x5_1 (wrap64 (x6_1 + 1))) else (burgagelaw16_ClockEnds.l0 k1 t222 t223 (wrap64 (x5_1 + 1)) (wrap64 (x6_1 + 1)))))) = some r := H
        have A6 := Aside0.mk A60
        clear A60
        by_cases c7 : t224 = true
        · subst c7
          have H1 : (burgagelaw16_ClockEnds.l0 k1 t222 t223 x5_1 (wrap64 (x6_1 + 1))) = some r := by rw [if_pos rfl] at H; exact H
          clear H
          have H := H1
          clear H1
          have H' := Aside0.mk H
          clear H
          go_wp2_with (first | ((with_reducible refine gate_callee (f := 16) rfl ?_); refine goesL_ (some 20) rfl rfl Try.func16 (by kernel_rfl) rfl #[.int .i64 t223, .int .i64 x6_1] rfl (by (try simp only [List.map_toArray, List.map_cons, List.map_nil]); first | done | rfl | (simp only [List.length_drop, List.length_take]; rfl)) ?_; (with_reducible refine (clock_Holds.calls t223 x6_1 true _ A6.out).mono ?_); rintro e w' ⟨rfl, ⟨nd, rfl⟩⟩; refine ⟨_, rfl, ?_⟩))
          go_roundg k1
          case measure => have := HK1.out; omega
          case rel => exact ⟨(x5_1), (wrap64 (x6_1 + 1)), (by first | rfl | (simp; done) | (simp [*]; done)), (by first | rfl | (simp; done) | (simp [*]; done)), H', ⟨by have := HK1.out; omega⟩, ⟨by repeat (first | (with_reducible first | exact HB.out | apply below_alloc | apply pw_below_drewN | apply below_drew1) | exact HB.out)⟩⟩
        · replace c7 := Bool.eq_false_iff.mpr c7
          subst c7
          have H1 : ((clock_Over.f t223 x6_1).bind fun t225 => (if t225 = true then (burgagelaw16_ClockEnds.l0 k1 t222 t223 x5_1 (wrap64 (x6_1 + 1))) else (burgagelaw16_ClockEnds.l0 k1 t222 t223 (wrap64 (x5_1 + 1)) (wrap64 (x6_1 + 1))))) = some r := by rw [if_neg (show ¬ (false = true) by decide)] at H; exact H
          clear H
          have H := H1
          clear H1
          replace H := Option.bind_eq_some_iff.mp H
          obtain ⟨t225, A80, H⟩ := H
          replace H : (if t225 = true then (burgagelaw16_ClockEnds.l0 k1 t222 t223 x5_1 (wrap64 (x6_1 + 1))) else (burgagelaw16_ClockEnds.l0 k1 t222 t223 (wrap64 (x5_1 + 1)) (wrap64 (x6_1 + 1)))) = some r := H
          have A8 := Aside0.mk A80
          clear A80
          by_cases c9 : t225 = true
          · subst c9
            have H1 : (burgagelaw16_ClockEnds.l0 k1 t222 t223 x5_1 (wrap64 (x6_1 + 1))) = some r := by rw [if_pos rfl] at H; exact H
            clear H
            have H := H1
            clear H1
            have H' := Aside0.mk H
            clear H
            go_wp2_with (first | ((with_reducible refine gate_callee (f := 16) rfl ?_); refine goesL_ (some 20) rfl rfl Try.func16 (by kernel_rfl) rfl #[.int .i64 t223, .int .i64 x6_1] rfl (by (try simp only [List.map_toArray, List.map_cons, List.map_nil]); first | done | rfl | (simp only [List.length_drop, List.length_take]; rfl)) ?_; (with_reducible refine (clock_Holds.calls t223 x6_1 false _ A6.out).mono ?_); rintro e w' ⟨rfl, ⟨nd, rfl⟩⟩; refine ⟨_, rfl, ?_⟩) | (go_at_call 18; (with_reducible refine (clock_Over.calls t223 x6_1 true _ A8.out).mono ?_); rintro e w' ⟨rfl, ⟨nd, rfl⟩⟩))
            go_roundg k1
            case measure => have := HK1.out; omega
            case rel => exact ⟨(x5_1), (wrap64 (x6_1 + 1)), (by first | rfl | (simp; done) | (simp [*]; done)), (by first | rfl | (simp; done) | (simp [*]; done)), H', ⟨by have := HK1.out; omega⟩, ⟨by repeat (first | (with_reducible first | exact HB.out | apply below_alloc | apply pw_below_drewN | apply below_drew1) | exact HB.out)⟩⟩
          · replace c9 := Bool.eq_false_iff.mpr c9
            subst c9
            have H1 : (burgagelaw16_ClockEnds.l0 k1 t222 t223 (wrap64 (x5_1 + 1)) (wrap64 (x6_1 + 1))) = some r := by rw [if_neg (show ¬ (false = true) by decide)] at H; exact H
            clear H
            have H := H1
            clear H1
            have H' := Aside0.mk H
            clear H
            go_wp2_with (first | ((with_reducible refine gate_callee (f := 16) rfl ?_); refine goesL_ (some 20) rfl rfl Try.func16 (by kernel_rfl) rfl #[.int .i64 t223, .int .i64 x6_1] rfl (by (try simp only [List.map_toArray, List.map_cons, List.map_nil]); first | done | rfl | (simp only [List.length_drop, List.length_take]; rfl)) ?_; (with_reducible refine (clock_Holds.calls t223 x6_1 false _ A6.out).mono ?_); rintro e w' ⟨rfl, ⟨nd, rfl⟩⟩; refine ⟨_, rfl, ?_⟩) | (go_at_call 18; (with_reducible refine (clock_Over.calls t223 x6_1 false _ A8.out).mono ?_); rintro e w' ⟨rfl, ⟨nd, rfl⟩⟩))
            go_roundg k1
            case measure => have := HK1.out; omega
            case rel => exact ⟨(wrap64 (x5_1 + 1)), (wrap64 (x6_1 + 1)), (by first | rfl | (simp; done) | (simp [*]; done)), (by first | rfl | (simp; done) | (simp [*]; done)), H', ⟨by have := HK1.out; omega⟩, ⟨by repeat (first | (with_reducible first | exact HB.out | apply below_alloc | apply pw_below_drewN | apply below_drew1) | exact HB.out)⟩⟩
      · rw [if_neg c5] at H
        have c5b0 : decide (x6_1 < (wrap64 (t223 + 60))) = false := decide_eq_false c5
        clear c5
        by_cases c10 : x5_1 = 40
        · rw [if_pos c10] at H
          have c10b0 : (x5_1 == 40) = true := beq_iff_eq.mpr c10
          have c10b1 : (x5_1 != 40) = false := bne_eq_false_iff_eq.mpr c10
          clear c10
          replace H := Option.bind_eq_some_iff.mp H
          obtain ⟨t226, A110, H⟩ := H
          replace H : (if t226 = true then ((clock_Holds.f t223 (wrap64 (t223 - 20))).bind fun t227 => (if t227 = true then (some false) else ((clock_Over.f t223 (wrap64 (t223 + 20))).bind fun t228 => (if t228 = true then ((clock_Over.f t223 (wrap64 (t223 + 19))).bind fun t229 => (if t229 = true then (some false) else (some t222))) else (some false))))) else (some false)) = some r := H
          have A11 := Aside0.mk A110
          clear A110
          by_cases c12 : t226 = true
          · subst c12
            have H1 : ((clock_Holds.f t223 (wrap64 (t223 - 20))).bind fun t227 => (if t227 = true then (some false) else ((clock_Over.f t223 (wrap64 (t223 + 20))).bind fun t228 => (if t228 = true then ((clock_Over.f t223 (wrap64 (t223 + 19))).bind fun t229 => (if t229 = true then (some false) else (some t222))) else (some false))))) = some r := by rw [if_pos rfl] at H; exact H
            clear H
            have H := H1
            clear H1
            replace H := Option.bind_eq_some_iff.mp H
            obtain ⟨t227, A130, H⟩ := H
            replace H : (if t227 = true then (some false) else ((clock_Over.f t223 (wrap64 (t223 + 20))).bind fun t228 => (if t228 = true then ((clock_Over.f t223 (wrap64 (t223 + 19))).bind fun t229 => (if t229 = true then (some false) else (some t222))) else (some false)))) = some r := H
            have A13 := Aside0.mk A130
            clear A130
            by_cases c14 : t227 = true
            · subst c14
              have H1 : (some false) = some r := by rw [if_pos rfl] at H; exact H
              clear H
              have H := H1
              clear H1
              exact absurd ((Option.some.inj H).trans HLAW.out) (by decide)
            · replace c14 := Bool.eq_false_iff.mpr c14
              subst c14
              have H1 : ((clock_Over.f t223 (wrap64 (t223 + 20))).bind fun t228 => (if t228 = true then ((clock_Over.f t223 (wrap64 (t223 + 19))).bind fun t229 => (if t229 = true then (some false) else (some t222))) else (some false))) = some r := by rw [if_neg (show ¬ (false = true) by decide)] at H; exact H
              clear H
              have H := H1
              clear H1
              replace H := Option.bind_eq_some_iff.mp H
              obtain ⟨t228, A150, H⟩ := H
              replace H : (if t228 = true then ((clock_Over.f t223 (wrap64 (t223 + 19))).bind fun t229 => (if t229 = true then (some false) else (some t222))) else (some false)) = some r := H
              have A15 := Aside0.mk A150
              clear A150
              by_cases c16 : t228 = true
              · subst c16
                have H1 : ((clock_Over.f t223 (wrap64 (t223 + 19))).bind fun t229 => (if t229 = true then (some false) else (some t222))) = some r := by rw [if_pos rfl] at H; exact H
                clear H
                have H := H1
                clear H1
                replace H := Option.bind_eq_some_iff.mp H
                obtain ⟨t229, A170, H⟩ := H
                replace H : (if t229 = true then (some false) else (some t222)) = some r := H
                have A17 := Aside0.mk A170
                clear A170
                by_cases c18 : t229 = true
                · subst c18
                  have H1 : (some false) = some r := by rw [if_pos rfl] at H; exact H
                  clear H
                  have H := H1
                  clear H1
                  exact absurd ((Option.some.inj H).trans HLAW.out) (by decide)
                · replace c18 := Bool.eq_false_iff.mpr c18
                  subst c18
                  have H1 : (some t222) = some r := by rw [if_neg (show ¬ (false = true) by decide)] at H; exact H
                  clear H
                  have H := H1
                  clear H1
                  clear HLAW
                  obtain rfl := Option.some.inj H
                  go_wp2_with (first | (go_at_call 16; (with_reducible refine (clock_Holds.calls t223 (wrap64 (t223 - 21)) true _ A11.out).mono ?_); rintro e w' ⟨rfl, ⟨nd, rfl⟩⟩) | (go_at_call 16; (with_reducible refine (clock_Holds.calls t223 (wrap64 (t223 - 20)) false _ A13.out).mono ?_); rintro e w' ⟨rfl, ⟨nd, rfl⟩⟩) | (go_at_call 18; (with_reducible refine (clock_Over.calls t223 (wrap64 (t223 + 20)) true _ A15.out).mono ?_); rintro e w' ⟨rfl, ⟨nd, rfl⟩⟩) | (go_at_call 18; (with_reducible refine (clock_Over.calls t223 (wrap64 (t223 + 19)) false _ A17.out).mono ?_); rintro e w' ⟨rfl, ⟨nd, rfl⟩⟩))
                  go_ret
                  exact ⟨by first | rfl | (simp [errW_none, errW_some] <;> rfl) | (simp [*, errW_none, errW_some] <;> rfl) | (exfalso; simp_all only [aside0_iff, Option.some.injEq, reduceCtorEq]), by repeat (first | (with_reducible first | exact HB.out | apply below_alloc | apply pw_below_drewN | apply below_drew1) | exact HB.out)⟩
              · replace c16 := Bool.eq_false_iff.mpr c16
                subst c16
                have H1 : (some false) = some r := by rw [if_neg (show ¬ (false = true) by decide)] at H; exact H
                clear H
                have H := H1
                clear H1
                exact absurd ((Option.some.inj H).trans HLAW.out) (by decide)
          · replace c12 := Bool.eq_false_iff.mpr c12
            subst c12
            have H1 : (some false) = some r := by rw [if_neg (show ¬ (false = true) by decide)] at H; exact H
            clear H
            have H := H1
            clear H1
            exact absurd ((Option.some.inj H).trans HLAW.out) (by decide)
        · rw [if_neg c10] at H
          have c10b0 : (x5_1 == 40) = false := beq_eq_false_iff_ne.mpr c10
          have c10b1 : (x5_1 != 40) = true := bne_iff_ne.mpr c10
          exact absurd ((Option.some.inj H).trans HLAW.out) (by decide)

/-- THE ONE PURE STATEMENT of burgagelaw16_ClockEnds: yours. -/
def burgagelaw16_ClockEnds.Pure : Prop := ∀ (a0 : Int), ((Lit.int .i64 a0).wf = true) → ∃ k, burgagelaw16_ClockEnds.f k a0 = some true

end Go.Proofs.Ytmhpclmfacejhaa.PC
