/- Plain Lean functions with the answers of the Go functions that these laws reach, and proofs that the calls come to them; written by this session's program. -/
import Derived.Test.YtebggajdojdebaaPSx0
import Derived.Test.YtebggajdojdebaaPSx4
import Derived.Test.YtebggajdojdebaaPSx5
import Derived.Test.YtebggajdojdebaaPSx6
import Derived.Test.YtebggajdojdebaaPSx8
namespace Go.Proofs.Ytebggajdojdebaa.PS
open Go.RowKit Go.Proofs.YtebggajdojdebaaW.PrintWords Go.Proofs.YtebggajdojdebaaW.PrintLast Go.Proofs.YtebggajdojdebaaW.PrintMore
attribute [local go_sem] max2_int min2_int max_two min_two max_three min_three max_four min_four   -- for this text's walks alone
set_option linter.unusedVariables false
set_option linter.unusedSimpArgs false

/-! ### l11_small: function 30 -/
def l11_small.l0 : Nat → List (S24) → Int → Option (Bool)
 | 0, _, _ => none
 | k + 1, x0, x3 => if x3 < (x0.length : Int) then (if 0 ≤ x3 then (if ((rd_T24 x0 x3).f0) < (-20) then (some false) else (if ((rd_T24 x0 x3).f1) > 20 then (some false) else (if ((rd_T24 x0 x3).f1) < (-20) then (some false) else (if ((rd_T24 x0 x3).f0) > 20 then (some false) else (l11_small.l0 k x0 (wrap64 (x3 + 1))))))) else (none)) else (some (decide ((x0.length : Int) ≤ 16)))
def l11_small.f (k : Nat) (l0 : List (S24)) : Option (Bool) := l11_small.l0 k l0 0
theorem l11_small.mono_l : ∀ k, (∀ y0 y1, LeO (l11_small.l0 k y0 y1) (l11_small.l0 (k + 1) y0 y1))
 | 0 => fun _ _ r h => by simp [l11_small.l0] at h
 | k + 1 => by
  have ih0 := l11_small.mono_l k
  ·intro y0 y1
   unfold l11_small.l0
   repeat' first
   | (with_reducible exact ih0 _ _)
   | (with_reducible exact LeO.refl _)
   | (with_reducible exact LeO.none _)
   | (with_reducible refine LeO.ite ?_ ?_)
   | (with_reducible refine LeO.bind ?_ (fun _ => ?_))
   | exact ih0 _ _
   | exact LeO.none _
   | refine LeO.ite ?_ ?_
   | refine LeO.bind ?_ (fun _ => ?_)
theorem l11_small.mono : ∀ a0 k, LeO (l11_small.f k a0) (l11_small.f (k + 1) a0) := by
 intro a0 k
 have ih0 := l11_small.mono_l k
 unfold l11_small.f
 repeat' first
   | (with_reducible exact ih0 _ _)
   | (with_reducible exact LeO.refl _)
   | (with_reducible exact LeO.none _)
   | (with_reducible refine LeO.ite ?_ ?_)
   | (with_reducible refine LeO.bind ?_ (fun _ => ?_))
   | exact ih0 _ _
   | exact LeO.none _
   | refine LeO.ite ?_ ?_
   | refine LeO.bind ?_ (fun _ => ?_)
set_option maxHeartbeats 8000000 in
set_option maxRecDepth 100000 in
theorem l11_small.calls (k : Nat) (A0 : Option Addr) (c0 : Nat) (l0 : List (S24)) (r : Bool) (w : World) (hr0 : Kd.C k24 w A0 l0.length l0) (hc0 : l0.length ≤ c0) (h : l11_small.f k l0 = some r) :
  Calls Try.prog 30 #[.slice A0 l0.length c0] w fun e w' => e = .returned (.bool r) ∧ Drawn0 w w' := by
 have HR0 := Aside0.mk hr0
 have HC0 := Aside0.mk hc0
 clear hr0 hc0
 have H : (l11_small.l0 k l0 0) = some r := h
 clear h
 have H' := Aside0.mk H
 clear H
 go_enter Try.func30, Try.ntmps30
 go_wp2
 go_loopg [3] k (fun kq v3 w' => ∃ (x3_1 : Int), v3 = .int .i64 x3_1 ∧ Aside0 (l11_small.l0 kq l0 x3_1 = some r) ∧ Aside0 (kq ≤ k) ∧ Drawn0 w w')
 case atStart => exact ⟨(0), (by first | rfl | (simp; done) | (simp [*]; done)), H', ⟨Nat.le_refl _⟩, by repeat (first | exact Drawn0.refl _ | apply Drawn0.step)⟩
 case round =>
  clear H'
  obtain ⟨x3_1, rfl, HA, HK1, ⟨m1, rfl⟩⟩ := hrel
  cases gk with
  | zero => exact absurd HA.out (by simp [l11_small.l0])
  | succ k1 =>
   have H := HA.out
   clear HA
   simp only [l11_small.l0] at H
   by_cases c2 : x3_1 < (l0.length : Int)
   ·rw [if_pos c2] at H
    have c2b0 : decide (x3_1 < (l0.length : Int)) = true := decide_eq_true c2
    clear c2
    by_cases c3 : 0 ≤ x3_1
    ·rw [if_pos c3] at H
     have c3b0 : decide (0 ≤ x3_1) = true := decide_eq_true c3
     clear c3
     by_cases c4 : ((rd_T24 l0 x3_1).f0) < (-20)
     ·rw [if_pos c4] at H
      have c4b0 : decide (((rd_T24 l0 x3_1).f0) < (-20)) = true := decide_eq_true c4
      clear c4
      obtain rfl := Option.some.inj H
      have p525 : 0 ≤ (x3_1 : Int) := of_decide_eq_true (by first | (with_reducible assumption) | assumption)
      have q525 : x3_1 < (l0.length : Int) := of_decide_eq_true (by first | (with_reducible assumption) | assumption)
      obtain ⟨ad525, e525, hx525_0, hx525_1⟩ := at_T24 HR0.out x3_1 p525 q525
      cases e525
      replace p525 := eq_true p525
      replace q525 := eq_true q525
      go_wp2
      go_ret
      exact ⟨by first | rfl | (simp; done) | (simp [*]; done), by repeat (first | exact Drawn0.refl _ | apply Drawn0.step)⟩
     ·rw [if_neg c4] at H
      have c4b0 : decide (((rd_T24 l0 x3_1).f0) < (-20)) = false := decide_eq_false c4
      clear c4
      by_cases c5 : ((rd_T24 l0 x3_1).f1) > 20
      ·rw [if_pos c5] at H
       have c5b0 : decide (20 < ((rd_T24 l0 x3_1).f1)) = true := decide_eq_true c5
       clear c5
       obtain rfl := Option.some.inj H
       have p525 : 0 ≤ (x3_1 : Int) := of_decide_eq_true (by first | (with_reducible assumption) | assumption)
       have q525 : x3_1 < (l0.length : Int) := of_decide_eq_true (by first | (with_reducible assumption) | assumption)
       obtain ⟨ad525, e525, hx525_0, hx525_1⟩ := at_T24 HR0.out x3_1 p525 q525
       cases e525
       replace p525 := eq_true p525
       replace q525 := eq_true q525
       have p526 : 0 ≤ (x3_1 : Int) := of_decide_eq_true (by first | (with_reducible assumption) | assumption)
       have q526 : x3_1 < (l0.length : Int) := of_decide_eq_true (by first | (with_reducible assumption) | assumption)
       obtain ⟨ad526, e526, hx526_0, hx526_1⟩ := at_T24 HR0.out x3_1 p526 q526
       obtain rfl : ad525 = ad526 := (by injection e526)
       replace p526 := eq_true p526
       replace q526 := eq_true q526
       go_wp2
       go_ret
       exact ⟨by first | rfl | (simp; done) | (simp [*]; done), by repeat (first | exact Drawn0.refl _ | apply Drawn0.step)⟩
      ·rw [if_neg c5] at H
       have c5b0 : decide (20 < ((rd_T24 l0 x3_1).f1)) = false := decide_eq_false c5
       clear c5
       by_cases c6 : ((rd_T24 l0 x3_1).f1) < (-20)
       ·rw [if_pos c6] at H
        have c6b0 : decide (((rd_T24 l0 x3_1).f1) < (-20)) = true := decide_eq_true c6
        clear c6
        obtain rfl := Option.some.inj H
        have p525 : 0 ≤ (x3_1 : Int) := of_decide_eq_true (by first | (with_reducible assumption) | assumption)
        have q525 : x3_1 < (l0.length : Int) := of_decide_eq_true (by first | (with_reducible assumption) | assumption)
        obtain ⟨ad525, e525, hx525_0, hx525_1⟩ := at_T24 HR0.out x3_1 p525 q525
        cases e525
        replace p525 := eq_true p525
        replace q525 := eq_true q525
        have p526 : 0 ≤ (x3_1 : Int) := of_decide_eq_true (by first | (with_reducible assumption) | assumption)
        have q526 : x3_1 < (l0.length : Int) := of_decide_eq_true (by first | (with_reducible assumption) | assumption)
        obtain ⟨ad526, e526, hx526_0, hx526_1⟩ := at_T24 HR0.out x3_1 p526 q526
        obtain rfl : ad525 = ad526 := (by injection e526)
        replace p526 := eq_true p526
        replace q526 := eq_true q526
        have p527 : 0 ≤ (x3_1 : Int) := of_decide_eq_true (by first | (with_reducible assumption) | assumption)
        have q527 : x3_1 < (l0.length : Int) := of_decide_eq_true (by first | (with_reducible assumption) | assumption)
        obtain ⟨ad527, e527, hx527_0, hx527_1⟩ := at_T24 HR0.out x3_1 p527 q527
        obtain rfl : ad525 = ad527 := (by injection e527)
        replace p527 := eq_true p527
        replace q527 := eq_true q527
        go_wp2
        go_ret
        exact ⟨by first | rfl | (simp; done) | (simp [*]; done), by repeat (first | exact Drawn0.refl _ | apply Drawn0.step)⟩
       ·rw [if_neg c6] at H
        have c6b0 : decide (((rd_T24 l0 x3_1).f1) < (-20)) = false := decide_eq_false c6
        clear c6
        by_cases c7 : ((rd_T24 l0 x3_1).f0) > 20
        ·rw [if_pos c7] at H
         have c7b0 : decide (20 < ((rd_T24 l0 x3_1).f0)) = true := decide_eq_true c7
         clear c7
         obtain rfl := Option.some.inj H
         have p525 : 0 ≤ (x3_1 : Int) := of_decide_eq_true (by first | (with_reducible assumption) | assumption)
         have q525 : x3_1 < (l0.length : Int) := of_decide_eq_true (by first | (with_reducible assumption) | assumption)
         obtain ⟨ad525, e525, hx525_0, hx525_1⟩ := at_T24 HR0.out x3_1 p525 q525
         cases e525
         replace p525 := eq_true p525
         replace q525 := eq_true q525
         have p526 : 0 ≤ (x3_1 : Int) := of_decide_eq_true (by first | (with_reducible assumption) | assumption)
         have q526 : x3_1 < (l0.length : Int) := of_decide_eq_true (by first | (with_reducible assumption) | assumption)
         obtain ⟨ad526, e526, hx526_0, hx526_1⟩ := at_T24 HR0.out x3_1 p526 q526
         obtain rfl : ad525 = ad526 := (by injection e526)
         replace p526 := eq_true p526
         replace q526 := eq_true q526
         have p527 : 0 ≤ (x3_1 : Int) := of_decide_eq_true (by first | (with_reducible assumption) | assumption)
         have q527 : x3_1 < (l0.length : Int) := of_decide_eq_true (by first | (with_reducible assumption) | assumption)
         obtain ⟨ad527, e527, hx527_0, hx527_1⟩ := at_T24 HR0.out x3_1 p527 q527
         obtain rfl : ad525 = ad527 := (by injection e527)
         replace p527 := eq_true p527
         replace q527 := eq_true q527
         have p528 : 0 ≤ (x3_1 : Int) := of_decide_eq_true (by first | (with_reducible assumption) | assumption)
         have q528 : x3_1 < (l0.length : Int) := of_decide_eq_true (by first | (with_reducible assumption) | assumption)
         obtain ⟨ad528, e528, hx528_0, hx528_1⟩ := at_T24 HR0.out x3_1 p528 q528
         obtain rfl : ad525 = ad528 := (by injection e528)
         replace p528 := eq_true p528
         replace q528 := eq_true q528
         go_wp2
         go_ret
         exact ⟨by first | rfl | (simp; done) | (simp [*]; done), by repeat (first | exact Drawn0.refl _ | apply Drawn0.step)⟩
        ·rw [if_neg c7] at H
         have c7b0 : decide (20 < ((rd_T24 l0 x3_1).f0)) = false := decide_eq_false c7
         clear c7
         have H' := Aside0.mk H
         clear H
         have p525 : 0 ≤ (x3_1 : Int) := of_decide_eq_true (by first | (with_reducible assumption) | assumption)
         have q525 : x3_1 < (l0.length : Int) := of_decide_eq_true (by first | (with_reducible assumption) | assumption)
         obtain ⟨ad525, e525, hx525_0, hx525_1⟩ := at_T24 HR0.out x3_1 p525 q525
         cases e525
         replace p525 := eq_true p525
         replace q525 := eq_true q525
         have p526 : 0 ≤ (x3_1 : Int) := of_decide_eq_true (by first | (with_reducible assumption) | assumption)
         have q526 : x3_1 < (l0.length : Int) := of_decide_eq_true (by first | (with_reducible assumption) | assumption)
         obtain ⟨ad526, e526, hx526_0, hx526_1⟩ := at_T24 HR0.out x3_1 p526 q526
         obtain rfl : ad525 = ad526 := (by injection e526)
         replace p526 := eq_true p526
         replace q526 := eq_true q526
         have p527 : 0 ≤ (x3_1 : Int) := of_decide_eq_true (by first | (with_reducible assumption) | assumption)
         have q527 : x3_1 < (l0.length : Int) := of_decide_eq_true (by first | (with_reducible assumption) | assumption)
         obtain ⟨ad527, e527, hx527_0, hx527_1⟩ := at_T24 HR0.out x3_1 p527 q527
         obtain rfl : ad525 = ad527 := (by injection e527)
         replace p527 := eq_true p527
         replace q527 := eq_true q527
         have p528 : 0 ≤ (x3_1 : Int) := of_decide_eq_true (by first | (with_reducible assumption) | assumption)
         have q528 : x3_1 < (l0.length : Int) := of_decide_eq_true (by first | (with_reducible assumption) | assumption)
         obtain ⟨ad528, e528, hx528_0, hx528_1⟩ := at_T24 HR0.out x3_1 p528 q528
         obtain rfl : ad525 = ad528 := (by injection e528)
         replace p528 := eq_true p528
         replace q528 := eq_true q528
         go_wp2
         go_roundg k1
         case measure => have := HK1.out; omega
         case rel => exact ⟨(wrap64 (x3_1 + 1)), (by first | rfl | (simp; done) | (simp [*]; done)), H', ⟨by have := HK1.out; omega⟩, by repeat (first | exact Drawn0.refl _ | apply Drawn0.step)⟩
    ·rw [if_neg c3] at H
     exact absurd H (by simp)
   ·rw [if_neg c2] at H
    have c2b0 : decide (x3_1 < (l0.length : Int)) = false := decide_eq_false c2
    clear c2
    obtain rfl := Option.some.inj H
    go_wp2
    go_ret
    exact ⟨by first | rfl | (simp; done) | (simp [*]; done), by repeat (first | exact Drawn0.refl _ | apply Drawn0.step)⟩

/-! ### l11_SpanTotals: function 8 -/
mutual
def l11_SpanTotals.l0 : Nat → Bool → List (S24) → List (S24) → Int → Int → Option (Bool)
 | 0, _, _, _, _, _ => none
 | k + 1, x5, x6, x7, x8, x9 => if x9 ≤ 22 then ((r11_Has.f k x6 x9).bind fun t536 => (if t536 = true then (l11_SpanTotals.l0 k x5 x6 x7 (wrap64 (x8 + 1)) (wrap64 (x9 + 1))) else (l11_SpanTotals.l0 k x5 x6 x7 x8 (wrap64 (x9 + 1))))) else ((span_Union.f x6 x7).bind fun t537 => ((span_Meet.f x6 x7).bind fun t540 => ((span_Minus.f x6 x7).bind fun t543 => ((l11_small.f k t537).bind fun t546 => (if t546 = true then ((l11_small.f k t540).bind fun t547 => (if t547 = true then ((l11_small.f k t543).bind fun t548 => (l11_SpanTotals.j1 k x5 x6 x7 x8 t537 t540 t543 (!t548))) else (l11_SpanTotals.j1 k x5 x6 x7 x8 t537 t540 t543 true))) else (l11_SpanTotals.j1 k x5 x6 x7 x8 t537 t540 t543 true))))))
def l11_SpanTotals.j1 : Nat → Bool → List (S24) → List (S24) → Int → List (S24) → List (S24) → List (S24) → Bool → Option (Bool)
 | 0, _, _, _, _, _, _, _, _ => none
 | k + 1, x5, x6, x7, x8, x10, x11, x12, x48 => if x48 = true then (some false) else ((span_Total.f k x6).bind fun t549 => (if t549 = x8 then ((span_Total.f k x10).bind fun t550 => ((span_Total.f k x11).bind fun t551 => ((span_Total.f k x7).bind fun t552 => (if (wrap64 (t550 + t551)) = (wrap64 (x8 + t552)) then ((span_Total.f k x12).bind fun t553 => ((span_Total.f k x11).bind fun t554 => (if (wrap64 (t553 + t554)) = x8 then (some x5) else (some false)))) else (some false))))) else (some false)))
end
def l11_SpanTotals.f (k : Nat) (l0 : List (S49)) (l1 : List (S49)) : Option (Bool) := (l11_sanity.f k).bind fun t529 => ((r11_Made.f k l0).bind fun t530 => ((r11_Made.f k l1).bind fun t533 => (l11_SpanTotals.l0 k t529 t530 t533 0 (-22))))
theorem l11_SpanTotals.mono_l : ∀ k, (∀ y0 y1 y2 y3 y4, LeO (l11_SpanTotals.l0 k y0 y1 y2 y3 y4) (l11_SpanTotals.l0 (k + 1) y0 y1 y2 y3 y4)) ∧ (∀ y0 y1 y2 y3 y4 y5 y6 y7, LeO (l11_SpanTotals.j1 k y0 y1 y2 y3 y4 y5 y6 y7) (l11_SpanTotals.j1 (k + 1) y0 y1 y2 y3 y4 y5 y6 y7))
 | 0 => ⟨fun _ _ _ _ _ r h => by simp [l11_SpanTotals.l0] at h, fun _ _ _ _ _ _ _ _ r h => by simp [l11_SpanTotals.j1] at h⟩
 | k + 1 => by
  obtain ⟨ih0, ih1⟩ := l11_SpanTotals.mono_l k
  refine ⟨?_, ?_⟩
  ·intro y0 y1 y2 y3 y4
   unfold l11_SpanTotals.l0
   repeat' first
   | (with_reducible exact ih0 _ _ _ _ _)
   | (with_reducible exact ih1 _ _ _ _ _ _ _ _)
   | (with_reducible exact l11_sanity.mono _)
   | (with_reducible exact l11_small.mono _ _)
   | (with_reducible exact r11_Has.mono _ _ _)
   | (with_reducible exact r11_Made.mono _ _)
   | (with_reducible exact span_Total.mono _ _)
   | (with_reducible exact LeO.refl _)
   | (with_reducible exact LeO.none _)
   | (with_reducible refine LeO.ite ?_ ?_)
   | (with_reducible refine LeO.bind ?_ (fun _ => ?_))
   | exact ih0 _ _ _ _ _
   | exact ih1 _ _ _ _ _ _ _ _
   | exact l11_sanity.mono _
   | exact l11_small.mono _ _
   | exact r11_Has.mono _ _ _
   | exact r11_Made.mono _ _
   | exact span_Total.mono _ _
   | exact LeO.none _
   | refine LeO.ite ?_ ?_
   | refine LeO.bind ?_ (fun _ => ?_)
  ·intro y0 y1 y2 y3 y4 y5 y6 y7
   unfold l11_SpanTotals.j1
   repeat' first
   | (with_reducible exact ih0 _ _ _ _ _)
   | (with_reducible exact ih1 _ _ _ _ _ _ _ _)
   | (with_reducible exact l11_sanity.mono _)
   | (with_reducible exact l11_small.mono _ _)
   | (with_reducible exact r11_Has.mono _ _ _)
   | (with_reducible exact r11_Made.mono _ _)
   | (with_reducible exact span_Total.mono _ _)
   | (with_reducible exact LeO.refl _)
   | (with_reducible exact LeO.none _)
   | (with_reducible refine LeO.ite ?_ ?_)
   | (with_reducible refine LeO.bind ?_ (fun _ => ?_))
   | exact ih0 _ _ _ _ _
   | exact ih1 _ _ _ _ _ _ _ _
   | exact l11_sanity.mono _
   | exact l11_small.mono _ _
   | exact r11_Has.mono _ _ _
   | exact r11_Made.mono _ _
   | exact span_Total.mono _ _
   | exact LeO.none _
   | refine LeO.ite ?_ ?_
   | refine LeO.bind ?_ (fun _ => ?_)
theorem l11_SpanTotals.mono : ∀ a0 a1 k, LeO (l11_SpanTotals.f k a0 a1) (l11_SpanTotals.f (k + 1) a0 a1) := by
 intro a0 a1 k
 obtain ⟨ih0, ih1⟩ := l11_SpanTotals.mono_l k
 unfold l11_SpanTotals.f
 repeat' first
   | (with_reducible exact ih0 _ _ _ _ _)
   | (with_reducible exact ih1 _ _ _ _ _ _ _ _)
   | (with_reducible exact l11_sanity.mono _)
   | (with_reducible exact l11_small.mono _ _)
   | (with_reducible exact r11_Has.mono _ _ _)
   | (with_reducible exact r11_Made.mono _ _)
   | (with_reducible exact span_Total.mono _ _)
   | (with_reducible exact LeO.refl _)
   | (with_reducible exact LeO.none _)
   | (with_reducible refine LeO.ite ?_ ?_)
   | (with_reducible refine LeO.bind ?_ (fun _ => ?_))
   | exact ih0 _ _ _ _ _
   | exact ih1 _ _ _ _ _ _ _ _
   | exact l11_sanity.mono _
   | exact l11_small.mono _ _
   | exact r11_Has.mono _ _ _
   | exact r11_Made.mono _ _
   | exact span_Total.mono _ _
   | exact LeO.none _
   | refine LeO.ite ?_ ?_
   | refine LeO.bind ?_ (fun _ => ?_)
set_option maxHeartbeats 8000000 in
set_option maxRecDepth 100000 in
theorem l11_SpanTotals.calls (k : Nat) (A0 : Option Addr) (c0 : Nat) (l0 : List (S49)) (A1 : Option Addr) (c1 : Nat) (l1 : List (S49)) (r : Bool) (w : World) (hr0 : Kd.C k49 w A0 l0.length l0) (hc0 : l0.length ≤ c0) (hr1 : Kd.C k49 w A1 l1.length l1) (hc1 : l1.length ≤ c1) (hr : r = true) (h : l11_SpanTotals.f k l0 l1 = some r) :
  Calls Try.prog 8 #[.slice A0 l0.length c0, .slice A1 l1.length c1] w fun e w' => e = .returned (.bool r) ∧ Below w.heap.size w w' := by
 have HR0 := Aside0.mk hr0
 have HC0 := Aside0.mk hc0
 clear hr0 hc0
 have HR1 := Aside0.mk hr1
 have HC1 := Aside0.mk hc1
 clear hr1 hc1
 have HB := Aside0.mk (Below.refl w.heap.size w)
 have HLAW := Aside0.mk hr
 clear hr
 have H : ((l11_sanity.f k).bind fun t529 => ((r11_Made.f k l0).bind fun t530 => ((r11_Made.f k l1).bind fun t533 => (l11_SpanTotals.l0 k t529 t530 t533 0 (-22))))) = some r := h
 clear h
 replace H := Option.bind_eq_some_iff.mp H
 obtain ⟨t529, A30, H⟩ := H
 replace H : ((r11_Made.f k l0).bind fun t530 => ((r11_Made.f k l1).bind fun t533 => (l11_SpanTotals.l0 k t529 t530 t533 0 (-22)))) = some r := H
 have A3 := Aside0.mk A30
 clear A30
 replace H := Option.bind_eq_some_iff.mp H
 obtain ⟨t530, A40, H⟩ := H
 replace H : ((r11_Made.f k l1).bind fun t533 => (l11_SpanTotals.l0 k t529 t530 t533 0 (-22))) = some r := H
 have A4 := Aside0.mk A40
 clear A40
 replace H := Option.bind_eq_some_iff.mp H
 obtain ⟨t533, A50, H⟩ := H
 replace H : (l11_SpanTotals.l0 k t529 t530 t533 0 (-22)) = some r := H
 have A5 := Aside0.mk A50
 clear A50
 have H' := Aside0.mk H
 clear H
 go_enter Try.func8, Try.ntmps8
 go_wp2_with (first | ((with_reducible refine gate_callee (f := 10) rfl ?_); refine goesL_ (some 13) rfl rfl Try.func10 (by kernel_rfl) rfl #[] rfl (by (try simp only [List.map_toArray, List.map_cons, List.map_nil]); first | done | rfl | (simp only [List.length_drop, List.length_take]; rfl)) ?_; (with_reducible refine (l11_sanity.calls k  t529 _ A3.out).mono ?_); rintro e w6 ⟨rfl, hb⟩; refine ⟨_, rfl, ?_⟩; have n0_ := Aside0.mk (below_step (bZ HB.out) hb); clear HB; have HB := n0_; clear n0_; (try clear hb); (try clear hb2); (try clear hk); (try clear hi)) | ((with_reducible refine gate_callee (f := 23) rfl ?_); refine goesL_ (some 15) rfl rfl Try.func23 (by kernel_rfl) rfl #[.slice A0 l0.length c0] rfl (by (try simp only [List.map_toArray, List.map_cons, List.map_nil]); first | done | rfl | (simp only [List.length_drop, List.length_take]; rfl)) ?_; (with_reducible refine (r11_Made.calls k _ _ l0 t530 _ ?side1 ?side2 A4.out).mono ?_); (case side1 => repeat (first | exact (Kd.C_below HR0.out HB.out) | (with_reducible refine Kd.C_alloc ?_ _) | (with_reducible refine Kd.C_drewN ?_ _) | (with_reducible refine Kd.C_drew ?_))); (case side2 => exact HC0.out); rintro e w7 ⟨v531, rfl, ho0, hb⟩; refine ⟨_, rfl, ?_⟩; have n0_ := Aside0.mk (Kd.R_lower ho0 (below_size (bZ HB.out))); have n1_ := Aside0.mk (below_step (bZ HB.out) hb); clear HB; have HO532 := n0_; have HB := n1_; clear n0_ n1_; (try clear hb); (try clear hb2); (try clear hk); (try clear hi); (try clear ho0)) | ((with_reducible refine gate_callee (f := 23) rfl ?_); refine goesL_ (some 17) rfl rfl Try.func23 (by kernel_rfl) rfl #[.slice A1 l1.length c1] rfl (by (try simp only [List.map_toArray, List.map_cons, List.map_nil]); first | done | rfl | (simp only [List.length_drop, List.length_take]; rfl)) ?_; (with_reducible refine (r11_Made.calls k _ _ l1 t533 _ ?side1 ?side2 A5.out).mono ?_); (case side1 => repeat (first | exact (Kd.C_below HR1.out HB.out) | (with_reducible refine Kd.C_alloc ?_ _) | (with_reducible refine Kd.C_drewN ?_ _) | (with_reducible refine Kd.C_drew ?_))); (case side2 => exact HC1.out); rintro e w8 ⟨v534, rfl, ho0, hb⟩; refine ⟨_, rfl, ?_⟩; have n0_ := Aside0.mk (Kd.R_elder' (rZ HO532.out) (Kd.R_base ho0) hb); have n1_ := Aside0.mk (Kd.R_lower (Kd.R_new' ho0 (Kd.R_lt (rZ HO532.out))) (below_size (bZ HB.out))); have n2_ := Aside0.mk (below_step (bZ HB.out) hb); clear HO532; clear HB; have HO532 := n0_; have HO535 := n1_; have HB := n2_; clear n0_ n1_ n2_; (try clear hb); (try clear hb2); (try clear hk); (try clear hi); (try clear ho0)))
 go_loopg [8, 9] k (fun kq v8 v9 w' => ∃ (x8_1 : Int) (x9_1 : Int), v8 = .int .i64 x8_1 ∧ v9 = .int .i64 x9_1 ∧ Aside0 (l11_SpanTotals.l0 kq t529 t530 t533 x8_1 x9_1 = some r) ∧ Aside0 (kq ≤ k) ∧ Aside0 (Kd.R k24 24 w' w.heap.size (fun k_ => some k_ ≠ (v534 : Value).ownBlock) v531 t530) ∧ Aside0 (Kd.R k24 24 w' w.heap.size (fun k_ => some k_ ≠ (v531 : Value).ownBlock) v534 t533) ∧ Aside0 (Below w.heap.size w w'))
 case atStart => exact ⟨(0), ((-22)), (by first | rfl | (simp; done) | (simp [*]; done)), (by first | rfl | (simp; done) | (simp [*]; done)), H', ⟨Nat.le_refl _⟩, ⟨by (with_reducible repeat (first | apply Kd.R_alloc | apply Kd.R_drewN | apply Kd.R_drew)); exact Kd.R_mono HO532.out (fun _ hk => hk.2)⟩, ⟨by (with_reducible repeat (first | apply Kd.R_alloc | apply Kd.R_drewN | apply Kd.R_drew)); exact Kd.R_mono HO535.out (fun _ hk => hk.2)⟩, ⟨by repeat (first | (with_reducible first | exact HB.out | apply below_alloc | apply pw_below_drewN | apply below_drew1) | exact HB.out)⟩⟩
 case round =>
  clear H'
  try clear c1
  try clear c2
  try clear p2
  try clear c8
  obtain ⟨x8_1, x9_1, rfl, rfl, HA, HK1, HO_6, HO_7, HB⟩ := hrel
  cases gk with
  | zero => exact absurd HA.out (by simp [l11_SpanTotals.l0])
  | succ k1 =>
   have H := HA.out
   clear HA
   simp only [l11_SpanTotals.l0] at H
   by_cases c9 : x9_1 ≤ 22
   ·rw [if_pos c9] at H
    have c9b0 : decide (x9_1 ≤ 22) = true := decide_eq_true c9
    clear c9
    replace H := Option.bind_eq_some_iff.mp H
    obtain ⟨t536, A100, H⟩ := H
    replace H : (if t536 = true then (l11_SpanTotals.l0 k1 t529 t530 t533 (wrap64 (x8_1 + 1)) (wrap64 (x9_1 + 1))) else (l11_SpanTotals.l0 k1 t529 t530 t533 x8_1 (wrap64 (x9_1 + 1)))) = some r := H
    have A10 := Aside0.mk A100
    clear A100
    by_cases c11 : t536 = true
    ·subst c11
     have H1 : (l11_SpanTotals.l0 k1 t529 t530 t533 (wrap64 (x8_1 + 1)) (wrap64 (x9_1 + 1))) = some r := by rw [if_pos rfl] at H; exact H
     clear H
     have H := H1
     clear H1
     have H' := Aside0.mk H
     clear H
     obtain ⟨Ao12, co12, eo12⟩ := Kd.R_slice HO_6.out
     subst eo12
     go_wp2_with (first | ((with_reducible refine gate_callee (f := 25) rfl ?_); refine goesL_ (some 24) rfl rfl Try.func25 (by kernel_rfl) rfl #[.slice Ao12 t530.length co12, .int .i64 x9_1] rfl (by (try simp only [List.map_toArray, List.map_cons, List.map_nil]); first | done | rfl | (simp only [List.length_drop, List.length_take]; rfl)) ?_; (with_reducible refine (r11_Has.calls k1 _ _ t530 x9_1 true _ ?side1 ?side2 A10.out).mono ?_); (case side1 => repeat (first | exact (Kd.R_reads' HO_6.out).2.2 | (with_reducible refine Kd.C_alloc ?_ _) | (with_reducible refine Kd.C_drewN ?_ _) | (with_reducible refine Kd.C_drew ?_))); (case side2 => exact (Kd.R_reads' HO_6.out).2.1); rintro e w' ⟨rfl, ⟨nd, rfl⟩⟩; refine ⟨_, rfl, ?_⟩))
     go_roundg k1
     case measure => have := HK1.out; omega
     case rel => exact ⟨(wrap64 (x8_1 + 1)), (wrap64 (x9_1 + 1)), (by first | rfl | (simp; done) | (simp [*]; done)), (by first | rfl | (simp; done) | (simp [*]; done)), H', ⟨by have := HK1.out; omega⟩, ⟨by (with_reducible repeat (first | apply Kd.R_alloc | apply Kd.R_drewN | apply Kd.R_drew)); exact HO_6.out⟩, ⟨by (with_reducible repeat (first | apply Kd.R_alloc | apply Kd.R_drewN | apply Kd.R_drew)); exact HO_7.out⟩, ⟨by repeat (first | (with_reducible first | exact HB.out | apply below_alloc | apply pw_below_drewN | apply below_drew1) | exact HB.out)⟩⟩
    ·replace c11 := Bool.eq_false_iff.mpr c11
     subst c11
     have H1 : (l11_SpanTotals.l0 k1 t529 t530 t533 x8_1 (wrap64 (x9_1 + 1))) = some r := by rw [if_neg (show ¬ (false = true) by decide)] at H; exact H
     clear H
     have H := H1
     clear H1
     have H' := Aside0.mk H
     clear H
     obtain ⟨Ao13, co13, eo13⟩ := Kd.R_slice HO_6.out
     subst eo13
     go_wp2_with (first | ((with_reducible refine gate_callee (f := 25) rfl ?_); refine goesL_ (some 24) rfl rfl Try.func25 (by kernel_rfl) rfl #[.slice Ao13 t530.length co13, .int .i64 x9_1] rfl (by (try simp only [List.map_toArray, List.map_cons, List.map_nil]); first | done | rfl | (simp only [List.length_drop, List.length_take]; rfl)) ?_; (with_reducible refine (r11_Has.calls k1 _ _ t530 x9_1 false _ ?side1 ?side2 A10.out).mono ?_); (case side1 => repeat (first | exact (Kd.R_reads' HO_6.out).2.2 | (with_reducible refine Kd.C_alloc ?_ _) | (with_reducible refine Kd.C_drewN ?_ _) | (with_reducible refine Kd.C_drew ?_))); (case side2 => exact (Kd.R_reads' HO_6.out).2.1); rintro e w' ⟨rfl, ⟨nd, rfl⟩⟩; refine ⟨_, rfl, ?_⟩))
     go_roundg k1
     case measure => have := HK1.out; omega
     case rel => exact ⟨(x8_1), (wrap64 (x9_1 + 1)), (by first | rfl | (simp; done) | (simp [*]; done)), (by first | rfl | (simp; done) | (simp [*]; done)), H', ⟨by have := HK1.out; omega⟩, ⟨by (with_reducible repeat (first | apply Kd.R_alloc | apply Kd.R_drewN | apply Kd.R_drew)); exact HO_6.out⟩, ⟨by (with_reducible repeat (first | apply Kd.R_alloc | apply Kd.R_drewN | apply Kd.R_drew)); exact HO_7.out⟩, ⟨by repeat (first | (with_reducible first | exact HB.out | apply below_alloc | apply pw_below_drewN | apply below_drew1) | exact HB.out)⟩⟩
   ·rw [if_neg c9] at H
    have c9b0 : decide (x9_1 ≤ 22) = false := decide_eq_false c9
    clear c9
    replace H := Option.bind_eq_some_iff.mp H
    obtain ⟨t537, A140, H⟩ := H
    replace H : ((span_Meet.f t530 t533).bind fun t540 => ((span_Minus.f t530 t533).bind fun t543 => ((l11_small.f k1 t537).bind fun t546 => (if t546 = true then ((l11_small.f k1 t540).bind fun t547 => (if t547 = true then ((l11_small.f k1 t543).bind fun t548 => (l11_SpanTotals.j1 k1 t529 t530 t533 x8_1 t537 t540 t543 (!t548))) else (l11_SpanTotals.j1 k1 t529 t530 t533 x8_1 t537 t540 t543 true))) else (l11_SpanTotals.j1 k1 t529 t530 t533 x8_1 t537 t540 t543 true))))) = some r := H
    have A14 := Aside0.mk A140
    clear A140
    replace H := Option.bind_eq_some_iff.mp H
    obtain ⟨t540, A150, H⟩ := H
    replace H : ((span_Minus.f t530 t533).bind fun t543 => ((l11_small.f k1 t537).bind fun t546 => (if t546 = true then ((l11_small.f k1 t540).bind fun t547 => (if t547 = true then ((l11_small.f k1 t543).bind fun t548 => (l11_SpanTotals.j1 k1 t529 t530 t533 x8_1 t537 t540 t543 (!t548))) else (l11_SpanTotals.j1 k1 t529 t530 t533 x8_1 t537 t540 t543 true))) else (l11_SpanTotals.j1 k1 t529 t530 t533 x8_1 t537 t540 t543 true)))) = some r := H
    have A15 := Aside0.mk A150
    clear A150
    replace H := Option.bind_eq_some_iff.mp H
    obtain ⟨t543, A160, H⟩ := H
    replace H : ((l11_small.f k1 t537).bind fun t546 => (if t546 = true then ((l11_small.f k1 t540).bind fun t547 => (if t547 = true then ((l11_small.f k1 t543).bind fun t548 => (l11_SpanTotals.j1 k1 t529 t530 t533 x8_1 t537 t540 t543 (!t548))) else (l11_SpanTotals.j1 k1 t529 t530 t533 x8_1 t537 t540 t543 true))) else (l11_SpanTotals.j1 k1 t529 t530 t533 x8_1 t537 t540 t543 true))) = some r := H
    have A16 := Aside0.mk A160
    clear A160
    have HC17 := Aside0.mk H
    clear H
    obtain ⟨Ao18, co18, eo18⟩ := Kd.R_slice HO_6.out
    subst eo18
    obtain ⟨Ao19, co19, eo19⟩ := Kd.R_slice HO_7.out
    subst eo19
    go_upto_region 10 with (first | ((with_reducible refine gate_callee (f := 17) rfl ?_); refine goesL_ (some 29) rfl rfl Try.func17 (by kernel_rfl) rfl #[.slice Ao18 t530.length co18, .slice Ao19 t533.length co19] rfl (by (try simp only [List.map_toArray, List.map_cons, List.map_nil]); first | done | rfl | (simp only [List.length_drop, List.length_take]; rfl)) ?_; (with_reducible refine (span_Union.calls _ _ t530 _ _ t533 t537 _ ?side1 ?side2 ?side3 ?side4 A14.out).mono ?_); (case side1 => repeat (first | exact (Kd.R_reads' HO_6.out).2.2 | (with_reducible refine Kd.C_alloc ?_ _) | (with_reducible refine Kd.C_drewN ?_ _) | (with_reducible refine Kd.C_drew ?_))); (case side2 => exact (Kd.R_reads' HO_6.out).2.1); (case side3 => repeat (first | exact (Kd.R_reads' HO_7.out).2.2 | (with_reducible refine Kd.C_alloc ?_ _) | (with_reducible refine Kd.C_drewN ?_ _) | (with_reducible refine Kd.C_drew ?_))); (case side4 => exact (Kd.R_reads' HO_7.out).2.1); rintro e w20 ⟨v538, rfl, ho0, hb⟩; refine ⟨_, rfl, ?_⟩; have n0_ := Aside0.mk (Kd.R_elder' (rZ HO_6.out) (Kd.R_base ho0) hb); have n1_ := Aside0.mk (Kd.R_elder' (rZ HO_7.out) (Kd.R_base ho0) hb); have n2_ := Aside0.mk (Kd.R_lower (Kd.R_new' (Kd.R_new' ho0 (Kd.R_lt (rZ HO_6.out))) (Kd.R_lt (rZ HO_7.out))) (below_size (bZ HB.out))); have n3_ := Aside0.mk (below_step (bZ HB.out) hb); clear HO_6; clear HO_7; clear HB; have HO_6 := n0_; have HO_7 := n1_; have HO539 := n2_; have HB := n3_; clear n0_ n1_ n2_ n3_; (try clear hb); (try clear hb2); (try clear hk); (try clear hi); (try clear ho0)) | ((with_reducible refine gate_callee (f := 19) rfl ?_); refine goesL_ (some 32) rfl rfl Try.func19 (by kernel_rfl) rfl #[.slice Ao18 t530.length co18, .slice Ao19 t533.length co19] rfl (by (try simp only [List.map_toArray, List.map_cons, List.map_nil]); first | done | rfl | (simp only [List.length_drop, List.length_take]; rfl)) ?_; (with_reducible refine (span_Meet.calls _ _ t530 _ _ t533 t540 _ ?side1 ?side2 ?side3 ?side4 A15.out).mono ?_); (case side1 => repeat (first | exact (Kd.R_reads' HO_6.out).2.2 | (with_reducible refine Kd.C_alloc ?_ _) | (with_reducible refine Kd.C_drewN ?_ _) | (with_reducible refine Kd.C_drew ?_))); (case side2 => exact (Kd.R_reads' HO_6.out).2.1); (case side3 => repeat (first | exact (Kd.R_reads' HO_7.out).2.2 | (with_reducible refine Kd.C_alloc ?_ _) | (with_reducible refine Kd.C_drewN ?_ _) | (with_reducible refine Kd.C_drew ?_))); (case side4 => exact (Kd.R_reads' HO_7.out).2.1); rintro e w21 ⟨v541, rfl, ho0, hb⟩; refine ⟨_, rfl, ?_⟩; have n0_ := Aside0.mk (Kd.R_elder' (rZ HO_6.out) (Kd.R_base ho0) hb); have n1_ := Aside0.mk (Kd.R_elder' (rZ HO_7.out) (Kd.R_base ho0) hb); have n2_ := Aside0.mk (Kd.R_elder' (rZ HO539.out) (Kd.R_base ho0) hb); have n3_ := Aside0.mk (Kd.R_lower (Kd.R_new' (Kd.R_new' (Kd.R_new' ho0 (Kd.R_lt (rZ HO_6.out))) (Kd.R_lt (rZ HO_7.out))) (Kd.R_lt (rZ HO539.out))) (below_size (bZ HB.out))); have n4_ := Aside0.mk (below_step (bZ HB.out) hb); clear HO_6; clear HO_7; clear HO539; clear HB; have HO_6 := n0_; have HO_7 := n1_; have HO539 := n2_; have HO542 := n3_; have HB := n4_; clear n0_ n1_ n2_ n3_ n4_; (try clear hb); (try clear hb2); (try clear hk); (try clear hi); (try clear ho0)) | ((with_reducible refine gate_callee (f := 21) rfl ?_); refine goesL_ (some 35) rfl rfl Try.func21 (by kernel_rfl) rfl #[.slice Ao18 t530.length co18, .slice Ao19 t533.length co19] rfl (by (try simp only [List.map_toArray, List.map_cons, List.map_nil]); first | done | rfl | (simp only [List.length_drop, List.length_take]; rfl)) ?_; (with_reducible refine (span_Minus.calls _ _ t530 _ _ t533 t543 _ ?side1 ?side2 ?side3 ?side4 A16.out).mono ?_); (case side1 => repeat (first | exact (Kd.R_reads' HO_6.out).2.2 | (with_reducible refine Kd.C_alloc ?_ _) | (with_reducible refine Kd.C_drewN ?_ _) | (with_reducible refine Kd.C_drew ?_))); (case side2 => exact (Kd.R_reads' HO_6.out).2.1); (case side3 => repeat (first | exact (Kd.R_reads' HO_7.out).2.2 | (with_reducible refine Kd.C_alloc ?_ _) | (with_reducible refine Kd.C_drewN ?_ _) | (with_reducible refine Kd.C_drew ?_))); (case side4 => exact (Kd.R_reads' HO_7.out).2.1); rintro e w22 ⟨v544, rfl, ho0, hb⟩; refine ⟨_, rfl, ?_⟩; have n0_ := Aside0.mk (Kd.R_elder' (rZ HO_6.out) (Kd.R_base ho0) hb); have n1_ := Aside0.mk (Kd.R_elder' (rZ HO_7.out) (Kd.R_base ho0) hb); have n2_ := Aside0.mk (Kd.R_elder' (rZ HO539.out) (Kd.R_base ho0) hb); have n3_ := Aside0.mk (Kd.R_elder' (rZ HO542.out) (Kd.R_base ho0) hb); have n4_ := Aside0.mk (Kd.R_lower (Kd.R_new' (Kd.R_new' (Kd.R_new' (Kd.R_new' ho0 (Kd.R_lt (rZ HO_6.out))) (Kd.R_lt (rZ HO_7.out))) (Kd.R_lt (rZ HO539.out))) (Kd.R_lt (rZ HO542.out))) (below_size (bZ HB.out))); have n5_ := Aside0.mk (below_step (bZ HB.out) hb); clear HO_6; clear HO_7; clear HO539; clear HO542; clear HB; have HO_6 := n0_; have HO_7 := n1_; have HO539 := n2_; have HO542 := n3_; have HO545 := n4_; have HB := n5_; clear n0_ n1_ n2_ n3_ n4_ n5_; (try clear hb); (try clear hb2); (try clear hk); (try clear hi); (try clear ho0)))
    (try simp only [Act.put, List.setIfInBounds_toArray, List.set_cons_zero, List.set_cons_succ])
    go_cut [48] (fun v48 wc => ∃ (kq : Nat) (x48_16 : Bool), v48 = .bool x48_16 ∧ Aside0 (l11_SpanTotals.j1 kq t529 t530 t533 x8_1 t537 t540 t543 x48_16 = some r) ∧ Aside0 (kq ≤ k1) ∧ Aside0 (Kd.R k24 24 wc w.heap.size (fun k_ => some k_ ≠ ((.slice Ao19 t533.length co19) : Value).ownBlock ∧ some k_ ≠ (v538 : Value).ownBlock ∧ some k_ ≠ (v541 : Value).ownBlock ∧ some k_ ≠ (v544 : Value).ownBlock) (.slice Ao18 t530.length co18) t530) ∧ Aside0 (Kd.R k24 24 wc w.heap.size (fun k_ => some k_ ≠ ((.slice Ao18 t530.length co18) : Value).ownBlock ∧ some k_ ≠ (v538 : Value).ownBlock ∧ some k_ ≠ (v541 : Value).ownBlock ∧ some k_ ≠ (v544 : Value).ownBlock) (.slice Ao19 t533.length co19) t533) ∧ Aside0 (Kd.R k24 24 wc w.heap.size (fun k_ => some k_ ≠ ((.slice Ao18 t530.length co18) : Value).ownBlock ∧ some k_ ≠ ((.slice Ao19 t533.length co19) : Value).ownBlock ∧ some k_ ≠ (v541 : Value).ownBlock ∧ some k_ ≠ (v544 : Value).ownBlock) v538 t537) ∧ Aside0 (Kd.R k24 24 wc w.heap.size (fun k_ => some k_ ≠ ((.slice Ao18 t530.length co18) : Value).ownBlock ∧ some k_ ≠ ((.slice Ao19 t533.length co19) : Value).ownBlock ∧ some k_ ≠ (v538 : Value).ownBlock ∧ some k_ ≠ (v544 : Value).ownBlock) v541 t540) ∧ Aside0 (Kd.R k24 24 wc w.heap.size (fun k_ => some k_ ≠ ((.slice Ao18 t530.length co18) : Value).ownBlock ∧ some k_ ≠ ((.slice Ao19 t533.length co19) : Value).ownBlock ∧ some k_ ≠ (v538 : Value).ownBlock ∧ some k_ ≠ (v541 : Value).ownBlock) v544 t543) ∧ Aside0 (Below w.heap.size w wc))
    case first =>
     have H := HC17.out
     clear HC17
     replace H := Option.bind_eq_some_iff.mp H
     obtain ⟨t546, A230, H⟩ := H
     replace H : (if t546 = true then ((l11_small.f k1 t540).bind fun t547 => (if t547 = true then ((l11_small.f k1 t543).bind fun t548 => (l11_SpanTotals.j1 k1 t529 t530 t533 x8_1 t537 t540 t543 (!t548))) else (l11_SpanTotals.j1 k1 t529 t530 t533 x8_1 t537 t540 t543 true))) else (l11_SpanTotals.j1 k1 t529 t530 t533 x8_1 t537 t540 t543 true)) = some r := H
     have A23 := Aside0.mk A230
     clear A230
     by_cases c24 : t546 = true
     ·subst c24
      have H1 : ((l11_small.f k1 t540).bind fun t547 => (if t547 = true then ((l11_small.f k1 t543).bind fun t548 => (l11_SpanTotals.j1 k1 t529 t530 t533 x8_1 t537 t540 t543 (!t548))) else (l11_SpanTotals.j1 k1 t529 t530 t533 x8_1 t537 t540 t543 true))) = some r := by rw [if_pos rfl] at H; exact H
      clear H
      have H := H1
      clear H1
      replace H := Option.bind_eq_some_iff.mp H
      obtain ⟨t547, A250, H⟩ := H
      replace H : (if t547 = true then ((l11_small.f k1 t543).bind fun t548 => (l11_SpanTotals.j1 k1 t529 t530 t533 x8_1 t537 t540 t543 (!t548))) else (l11_SpanTotals.j1 k1 t529 t530 t533 x8_1 t537 t540 t543 true)) = some r := H
      have A25 := Aside0.mk A250
      clear A250
      by_cases c26 : t547 = true
      ·subst c26
       have H1 : ((l11_small.f k1 t543).bind fun t548 => (l11_SpanTotals.j1 k1 t529 t530 t533 x8_1 t537 t540 t543 (!t548))) = some r := by rw [if_pos rfl] at H; exact H
       clear H
       have H := H1
       clear H1
       replace H := Option.bind_eq_some_iff.mp H
       obtain ⟨t548, A270, H⟩ := H
       replace H : (l11_SpanTotals.j1 k1 t529 t530 t533 x8_1 t537 t540 t543 (!t548)) = some r := H
       have A27 := Aside0.mk A270
       clear A270
       have H' := Aside0.mk H
       clear H
       obtain ⟨Ao28, co28, eo28⟩ := Kd.R_slice HO539.out
       subst eo28
       go_wp2_with (first | ((with_reducible refine gate_callee (f := 30) rfl ?_); refine goesL_ (some 37) rfl rfl Try.func30 (by kernel_rfl) rfl #[.slice Ao28 t537.length co28] rfl (by (try simp only [List.map_toArray, List.map_cons, List.map_nil]); first | done | rfl | (simp only [List.length_drop, List.length_take]; rfl)) ?_; (with_reducible refine (l11_small.calls k1 _ _ t537 true _ ?side1 ?side2 A23.out).mono ?_); (case side1 => repeat (first | exact (Kd.R_reads' HO539.out).2.2 | (with_reducible refine Kd.C_alloc ?_ _) | (with_reducible refine Kd.C_drewN ?_ _) | (with_reducible refine Kd.C_drew ?_))); (case side2 => exact (Kd.R_reads' HO539.out).2.1); rintro e w' ⟨rfl, ⟨nd, rfl⟩⟩; refine ⟨_, rfl, ?_⟩; obtain ⟨Ao29, co29, eo29⟩ := Kd.R_slice HO542.out; subst eo29) | (go_at_call 30; (with_reducible refine (l11_small.calls k1 _ _ t540 true _ ?side1 ?side2 A25.out).mono ?_); (case side1 => repeat (first | exact (Kd.R_reads' HO542.out).2.2 | (with_reducible refine Kd.C_alloc ?_ _) | (with_reducible refine Kd.C_drewN ?_ _) | (with_reducible refine Kd.C_drew ?_))); (case side2 => exact (Kd.R_reads' HO542.out).2.1); rintro e w' ⟨rfl, ⟨nd, rfl⟩⟩; obtain ⟨Ao30, co30, eo30⟩ := Kd.R_slice HO545.out; subst eo30) | (go_at_call 30; (with_reducible refine (l11_small.calls k1 _ _ t543 t548 _ ?side1 ?side2 A27.out).mono ?_); (case side1 => repeat (first | exact (Kd.R_reads' HO545.out).2.2 | (with_reducible refine Kd.C_alloc ?_ _) | (with_reducible refine Kd.C_drewN ?_ _) | (with_reducible refine Kd.C_drew ?_))); (case side2 => exact (Kd.R_reads' HO545.out).2.1); rintro e w' ⟨rfl, ⟨nd, rfl⟩⟩))
       go_meet
       case rel => exact ⟨_, (!t548), (by first | rfl | (simp; done) | (simp [*]; done)), H', ⟨by have := HK1.out; first | omega | exact Nat.le_refl _⟩, ⟨by (with_reducible repeat (first | apply Kd.R_alloc | apply Kd.R_drewN | apply Kd.R_drew)); exact Kd.R_mono HO_6.out (fun _ hk => ⟨hk.1.1.1, ⟨hk.1.1.2, ⟨hk.1.2, hk.2⟩⟩⟩)⟩, ⟨by (with_reducible repeat (first | apply Kd.R_alloc | apply Kd.R_drewN | apply Kd.R_drew)); exact Kd.R_mono HO_7.out (fun _ hk => ⟨hk.1.1.1, ⟨hk.1.1.2, ⟨hk.1.2, hk.2⟩⟩⟩)⟩, ⟨by (with_reducible repeat (first | apply Kd.R_alloc | apply Kd.R_drewN | apply Kd.R_drew)); exact Kd.R_mono HO539.out (fun _ hk => ⟨hk.1.1.1.2, ⟨hk.1.1.2, ⟨hk.1.2, hk.2⟩⟩⟩)⟩, ⟨by (with_reducible repeat (first | apply Kd.R_alloc | apply Kd.R_drewN | apply Kd.R_drew)); exact Kd.R_mono HO542.out (fun _ hk => ⟨hk.1.1.1.2, ⟨hk.1.1.2, ⟨hk.1.2, hk.2⟩⟩⟩)⟩, ⟨by (with_reducible repeat (first | apply Kd.R_alloc | apply Kd.R_drewN | apply Kd.R_drew)); exact Kd.R_mono HO545.out (fun _ hk => ⟨hk.1.1.1.2, ⟨hk.1.1.2, ⟨hk.1.2, hk.2⟩⟩⟩)⟩, ⟨by repeat (first | (with_reducible first | exact HB.out | apply below_alloc | apply pw_below_drewN | apply below_drew1) | exact HB.out)⟩⟩
      ·replace c26 := Bool.eq_false_iff.mpr c26
       subst c26
       have H1 : (l11_SpanTotals.j1 k1 t529 t530 t533 x8_1 t537 t540 t543 true) = some r := by rw [if_neg (show ¬ (false = true) by decide)] at H; exact H
       clear H
       have H := H1
       clear H1
       have H' := Aside0.mk H
       clear H
       obtain ⟨Ao31, co31, eo31⟩ := Kd.R_slice HO539.out
       subst eo31
       go_wp2_with (first | ((with_reducible refine gate_callee (f := 30) rfl ?_); refine goesL_ (some 37) rfl rfl Try.func30 (by kernel_rfl) rfl #[.slice Ao31 t537.length co31] rfl (by (try simp only [List.map_toArray, List.map_cons, List.map_nil]); first | done | rfl | (simp only [List.length_drop, List.length_take]; rfl)) ?_; (with_reducible refine (l11_small.calls k1 _ _ t537 true _ ?side1 ?side2 A23.out).mono ?_); (case side1 => repeat (first | exact (Kd.R_reads' HO539.out).2.2 | (with_reducible refine Kd.C_alloc ?_ _) | (with_reducible refine Kd.C_drewN ?_ _) | (with_reducible refine Kd.C_drew ?_))); (case side2 => exact (Kd.R_reads' HO539.out).2.1); rintro e w' ⟨rfl, ⟨nd, rfl⟩⟩; refine ⟨_, rfl, ?_⟩; obtain ⟨Ao32, co32, eo32⟩ := Kd.R_slice HO542.out; subst eo32) | (go_at_call 30; (with_reducible refine (l11_small.calls k1 _ _ t540 false _ ?side1 ?side2 A25.out).mono ?_); (case side1 => repeat (first | exact (Kd.R_reads' HO542.out).2.2 | (with_reducible refine Kd.C_alloc ?_ _) | (with_reducible refine Kd.C_drewN ?_ _) | (with_reducible refine Kd.C_drew ?_))); (case side2 => exact (Kd.R_reads' HO542.out).2.1); rintro e w' ⟨rfl, ⟨nd, rfl⟩⟩))
       go_meet
       case rel => exact ⟨_, (true), (by first | rfl | (simp; done) | (simp [*]; done)), H', ⟨by have := HK1.out; first | omega | exact Nat.le_refl _⟩, ⟨by (with_reducible repeat (first | apply Kd.R_alloc | apply Kd.R_drewN | apply Kd.R_drew)); exact Kd.R_mono HO_6.out (fun _ hk => ⟨hk.1.1.1, ⟨hk.1.1.2, ⟨hk.1.2, hk.2⟩⟩⟩)⟩, ⟨by (with_reducible repeat (first | apply Kd.R_alloc | apply Kd.R_drewN | apply Kd.R_drew)); exact Kd.R_mono HO_7.out (fun _ hk => ⟨hk.1.1.1, ⟨hk.1.1.2, ⟨hk.1.2, hk.2⟩⟩⟩)⟩, ⟨by (with_reducible repeat (first | apply Kd.R_alloc | apply Kd.R_drewN | apply Kd.R_drew)); exact Kd.R_mono HO539.out (fun _ hk => ⟨hk.1.1.1.2, ⟨hk.1.1.2, ⟨hk.1.2, hk.2⟩⟩⟩)⟩, ⟨by (with_reducible repeat (first | apply Kd.R_alloc | apply Kd.R_drewN | apply Kd.R_drew)); exact Kd.R_mono HO542.out (fun _ hk => ⟨hk.1.1.1.2, ⟨hk.1.1.2, ⟨hk.1.2, hk.2⟩⟩⟩)⟩, ⟨by (with_reducible repeat (first | apply Kd.R_alloc | apply Kd.R_drewN | apply Kd.R_drew)); exact Kd.R_mono HO545.out (fun _ hk => ⟨hk.1.1.1.2, ⟨hk.1.1.2, ⟨hk.1.2, hk.2⟩⟩⟩)⟩, ⟨by repeat (first | (with_reducible first | exact HB.out | apply below_alloc | apply pw_below_drewN | apply below_drew1) | exact HB.out)⟩⟩
     ·replace c24 := Bool.eq_false_iff.mpr c24
      subst c24
      have H1 : (l11_SpanTotals.j1 k1 t529 t530 t533 x8_1 t537 t540 t543 true) = some r := by rw [if_neg (show ¬ (false = true) by decide)] at H; exact H
      clear H
      have H := H1
      clear H1
      have H' := Aside0.mk H
      clear H
      obtain ⟨Ao33, co33, eo33⟩ := Kd.R_slice HO539.out
      subst eo33
      go_wp2_with (first | ((with_reducible refine gate_callee (f := 30) rfl ?_); refine goesL_ (some 37) rfl rfl Try.func30 (by kernel_rfl) rfl #[.slice Ao33 t537.length co33] rfl (by (try simp only [List.map_toArray, List.map_cons, List.map_nil]); first | done | rfl | (simp only [List.length_drop, List.length_take]; rfl)) ?_; (with_reducible refine (l11_small.calls k1 _ _ t537 false _ ?side1 ?side2 A23.out).mono ?_); (case side1 => repeat (first | exact (Kd.R_reads' HO539.out).2.2 | (with_reducible refine Kd.C_alloc ?_ _) | (with_reducible refine Kd.C_drewN ?_ _) | (with_reducible refine Kd.C_drew ?_))); (case side2 => exact (Kd.R_reads' HO539.out).2.1); rintro e w' ⟨rfl, ⟨nd, rfl⟩⟩; refine ⟨_, rfl, ?_⟩))
      go_meet
      case rel => exact ⟨_, (true), (by first | rfl | (simp; done) | (simp [*]; done)), H', ⟨by have := HK1.out; first | omega | exact Nat.le_refl _⟩, ⟨by (with_reducible repeat (first | apply Kd.R_alloc | apply Kd.R_drewN | apply Kd.R_drew)); exact Kd.R_mono HO_6.out (fun _ hk => ⟨hk.1.1.1, ⟨hk.1.1.2, ⟨hk.1.2, hk.2⟩⟩⟩)⟩, ⟨by (with_reducible repeat (first | apply Kd.R_alloc | apply Kd.R_drewN | apply Kd.R_drew)); exact Kd.R_mono HO_7.out (fun _ hk => ⟨hk.1.1.1, ⟨hk.1.1.2, ⟨hk.1.2, hk.2⟩⟩⟩)⟩, ⟨by (with_reducible repeat (first | apply Kd.R_alloc | apply Kd.R_drewN | apply Kd.R_drew)); exact Kd.R_mono HO539.out (fun _ hk => ⟨hk.1.1.1.2, ⟨hk.1.1.2, ⟨hk.1.2, hk.2⟩⟩⟩)⟩, ⟨by (with_reducible repeat (first | apply Kd.R_alloc | apply Kd.R_drewN | apply Kd.R_drew)); exact Kd.R_mono HO542.out (fun _ hk => ⟨hk.1.1.1.2, ⟨hk.1.1.2, ⟨hk.1.2, hk.2⟩⟩⟩)⟩, ⟨by (with_reducible repeat (first | apply Kd.R_alloc | apply Kd.R_drewN | apply Kd.R_drew)); exact Kd.R_mono HO545.out (fun _ hk => ⟨hk.1.1.1.2, ⟨hk.1.1.2, ⟨hk.1.2, hk.2⟩⟩⟩)⟩, ⟨by repeat (first | (with_reducible first | exact HB.out | apply below_alloc | apply pw_below_drewN | apply below_drew1) | exact HB.out)⟩⟩
    case rest =>
     clear HC17
     try clear c1
     try clear c2
     try clear p2
     try clear c3
     try clear p6
     try clear c8
     try clear c9
     try clear c9b0
     try clear c10
     try clear c11
     try clear c17
     try clear c19
     try clear c21
     try clear c23
     try clear c24
     try clear c25
     try clear c26
     try clear c30
     try clear p2
     obtain ⟨kq, x48_16, rfl, HA, HJ16, HO_6, HO_7, HO_10, HO_11, HO_12, HB⟩ := hcut
     cases kq with
     | zero => exact absurd HA.out (by simp [l11_SpanTotals.j1])
     | succ kj16 =>
      have H := HA.out
      clear HA
      simp only [l11_SpanTotals.j1] at H
      by_cases c34 : x48_16 = true
      ·subst c34
       have H1 : (some false) = some r := by rw [if_pos rfl] at H; exact H
       clear H
       have H := H1
       clear H1
       exact absurd ((Option.some.inj H).trans HLAW.out) (by decide)
      ·replace c34 := Bool.eq_false_iff.mpr c34
       subst c34
       have H1 : ((span_Total.f kj16 t530).bind fun t549 => (if t549 = x8_1 then ((span_Total.f kj16 t537).bind fun t550 => ((span_Total.f kj16 t540).bind fun t551 => ((span_Total.f kj16 t533).bind fun t552 => (if (wrap64 (t550 + t551)) = (wrap64 (x8_1 + t552)) then ((span_Total.f kj16 t543).bind fun t553 => ((span_Total.f kj16 t540).bind fun t554 => (if (wrap64 (t553 + t554)) = x8_1 then (some t529) else (some false)))) else (some false))))) else (some false))) = some r := by rw [if_neg (show ¬ (false = true) by decide)] at H; exact H
       clear H
       have H := H1
       clear H1
       replace H := Option.bind_eq_some_iff.mp H
       obtain ⟨t549, A350, H⟩ := H
       replace H : (if t549 = x8_1 then ((span_Total.f kj16 t537).bind fun t550 => ((span_Total.f kj16 t540).bind fun t551 => ((span_Total.f kj16 t533).bind fun t552 => (if (wrap64 (t550 + t551)) = (wrap64 (x8_1 + t552)) then ((span_Total.f kj16 t543).bind fun t553 => ((span_Total.f kj16 t540).bind fun t554 => (if (wrap64 (t553 + t554)) = x8_1 then (some t529) else (some false)))) else (some false))))) else (some false)) = some r := H
       have A35 := Aside0.mk A350
       clear A350
       by_cases c36 : t549 = x8_1
       ·rw [if_pos c36] at H
        have c36b0 : (t549 == x8_1) = true := beq_iff_eq.mpr c36
        have c36b1 : (t549 != x8_1) = false := bne_eq_false_iff_eq.mpr c36
        clear c36
        replace H := Option.bind_eq_some_iff.mp H
        obtain ⟨t550, A370, H⟩ := H
        replace H : ((span_Total.f kj16 t540).bind fun t551 => ((span_Total.f kj16 t533).bind fun t552 => (if (wrap64 (t550 + t551)) = (wrap64 (x8_1 + t552)) then ((span_Total.f kj16 t543).bind fun t553 => ((span_Total.f kj16 t540).bind fun t554 => (if (wrap64 (t553 + t554)) = x8_1 then (some t529) else (some false)))) else (some false)))) = some r := H
        have A37 := Aside0.mk A370
        clear A370
        replace H := Option.bind_eq_some_iff.mp H
        obtain ⟨t551, A380, H⟩ := H
        replace H : ((span_Total.f kj16 t533).bind fun t552 => (if (wrap64 (t550 + t551)) = (wrap64 (x8_1 + t552)) then ((span_Total.f kj16 t543).bind fun t553 => ((span_Total.f kj16 t540).bind fun t554 => (if (wrap64 (t553 + t554)) = x8_1 then (some t529) else (some false)))) else (some false))) = some r := H
        have A38 := Aside0.mk A380
        clear A380
        replace H := Option.bind_eq_some_iff.mp H
        obtain ⟨t552, A390, H⟩ := H
        replace H : (if (wrap64 (t550 + t551)) = (wrap64 (x8_1 + t552)) then ((span_Total.f kj16 t543).bind fun t553 => ((span_Total.f kj16 t540).bind fun t554 => (if (wrap64 (t553 + t554)) = x8_1 then (some t529) else (some false)))) else (some false)) = some r := H
        have A39 := Aside0.mk A390
        clear A390
        by_cases c40 : (wrap64 (t550 + t551)) = (wrap64 (x8_1 + t552))
        ·rw [if_pos c40] at H
         have c40b0 : ((wrap64 (t550 + t551)) == (wrap64 (x8_1 + t552))) = true := beq_iff_eq.mpr c40
         have c40b1 : ((wrap64 (t550 + t551)) != (wrap64 (x8_1 + t552))) = false := bne_eq_false_iff_eq.mpr c40
         clear c40
         replace H := Option.bind_eq_some_iff.mp H
         obtain ⟨t553, A410, H⟩ := H
         replace H : ((span_Total.f kj16 t540).bind fun t554 => (if (wrap64 (t553 + t554)) = x8_1 then (some t529) else (some false))) = some r := H
         have A41 := Aside0.mk A410
         clear A410
         replace H := Option.bind_eq_some_iff.mp H
         obtain ⟨t554, A420, H⟩ := H
         replace H : (if (wrap64 (t553 + t554)) = x8_1 then (some t529) else (some false)) = some r := H
         have A42 := Aside0.mk A420
         clear A420
         have E554 : t554 = t551 := Option.some.inj (A42.out.symm.trans A38.out)
         by_cases c43 : (wrap64 (t553 + t554)) = x8_1
         ·rw [if_pos c43] at H
          have c43b0 : ((wrap64 (t553 + t554)) == x8_1) = true := beq_iff_eq.mpr c43
          have c43b1 : ((wrap64 (t553 + t554)) != x8_1) = false := bne_eq_false_iff_eq.mpr c43
          rw [E554] at c43b0 c43b1
          clear c43
          clear HLAW
          obtain rfl := Option.some.inj H
          go_wp2_with (first | ((with_reducible refine gate_callee (f := 28) rfl ?_); refine goesL_ (some 50) rfl rfl Try.func28 (by kernel_rfl) rfl #[.slice Ao18 t530.length co18] rfl (by (try simp only [List.map_toArray, List.map_cons, List.map_nil]); first | done | rfl | (simp only [List.length_drop, List.length_take]; rfl)) ?_; (with_reducible refine (span_Total.calls kj16 _ _ t530 t549 _ ?side1 ?side2 A35.out).mono ?_); (case side1 => repeat (first | exact (Kd.R_reads' HO_6.out).2.2 | (with_reducible refine Kd.C_alloc ?_ _) | (with_reducible refine Kd.C_drewN ?_ _) | (with_reducible refine Kd.C_drew ?_))); (case side2 => exact (Kd.R_reads' HO_6.out).2.1); rintro e w44 ⟨rfl, hb⟩; refine ⟨_, rfl, ?_⟩; have n0_ := Aside0.mk (Kd.R_below (rZ HO_6.out) hb); have n1_ := Aside0.mk (Kd.R_below (rZ HO_7.out) hb); have n2_ := Aside0.mk (Kd.R_below (rZ HO_10.out) hb); have n3_ := Aside0.mk (Kd.R_below (rZ HO_11.out) hb); have n4_ := Aside0.mk (Kd.R_below (rZ HO_12.out) hb); have n5_ := Aside0.mk (below_step (bZ HB.out) hb); clear HO_6; clear HO_7; clear HO_10; clear HO_11; clear HO_12; clear HB; have HO_6 := n0_; have HO_7 := n1_; have HO_10 := n2_; have HO_11 := n3_; have HO_12 := n4_; have HB := n5_; clear n0_ n1_ n2_ n3_ n4_ n5_; (try clear hb); (try clear hb2); (try clear hk); (try clear hi); obtain ⟨Ao45, co45, eo45⟩ := Kd.R_slice HO_10.out; subst eo45) | (go_at_call 28; (with_reducible refine (span_Total.calls kj16 _ _ t537 t550 _ ?side1 ?side2 A37.out).mono ?_); (case side1 => repeat (first | exact (Kd.R_reads' HO_10.out).2.2 | (with_reducible refine Kd.C_alloc ?_ _) | (with_reducible refine Kd.C_drewN ?_ _) | (with_reducible refine Kd.C_drew ?_))); (case side2 => exact (Kd.R_reads' HO_10.out).2.1); rintro e w46 ⟨rfl, hb⟩; have n0_ := Aside0.mk (Kd.R_below (rZ HO_6.out) hb); have n1_ := Aside0.mk (Kd.R_below (rZ HO_7.out) hb); have n2_ := Aside0.mk (Kd.R_below (rZ HO_10.out) hb); have n3_ := Aside0.mk (Kd.R_below (rZ HO_11.out) hb); have n4_ := Aside0.mk (Kd.R_below (rZ HO_12.out) hb); have n5_ := Aside0.mk (below_step (bZ HB.out) hb); clear HO_6; clear HO_7; clear HO_10; clear HO_11; clear HO_12; clear HB; have HO_6 := n0_; have HO_7 := n1_; have HO_10 := n2_; have HO_11 := n3_; have HO_12 := n4_; have HB := n5_; clear n0_ n1_ n2_ n3_ n4_ n5_; (try clear hb); (try clear hb2); (try clear hk); (try clear hi); obtain ⟨Ao47, co47, eo47⟩ := Kd.R_slice HO_11.out; subst eo47) | (go_at_call 28; (with_reducible refine (span_Total.calls kj16 _ _ t540 t551 _ ?side1 ?side2 A38.out).mono ?_); (case side1 => repeat (first | exact (Kd.R_reads' HO_11.out).2.2 | (with_reducible refine Kd.C_alloc ?_ _) | (with_reducible refine Kd.C_drewN ?_ _) | (with_reducible refine Kd.C_drew ?_))); (case side2 => exact (Kd.R_reads' HO_11.out).2.1); rintro e w48 ⟨rfl, hb⟩; have n0_ := Aside0.mk (Kd.R_below (rZ HO_6.out) hb); have n1_ := Aside0.mk (Kd.R_below (rZ HO_7.out) hb); have n2_ := Aside0.mk (Kd.R_below (rZ HO_10.out) hb); have n3_ := Aside0.mk (Kd.R_below (rZ HO_11.out) hb); have n4_ := Aside0.mk (Kd.R_below (rZ HO_12.out) hb); have n5_ := Aside0.mk (below_step (bZ HB.out) hb); clear HO_6; clear HO_7; clear HO_10; clear HO_11; clear HO_12; clear HB; have HO_6 := n0_; have HO_7 := n1_; have HO_10 := n2_; have HO_11 := n3_; have HO_12 := n4_; have HB := n5_; clear n0_ n1_ n2_ n3_ n4_ n5_; (try clear hb); (try clear hb2); (try clear hk); (try clear hi)) | (go_at_call 28; (with_reducible refine (span_Total.calls kj16 _ _ t533 t552 _ ?side1 ?side2 A39.out).mono ?_); (case side1 => repeat (first | exact (Kd.R_reads' HO_7.out).2.2 | (with_reducible refine Kd.C_alloc ?_ _) | (with_reducible refine Kd.C_drewN ?_ _) | (with_reducible refine Kd.C_drew ?_))); (case side2 => exact (Kd.R_reads' HO_7.out).2.1); rintro e w49 ⟨rfl, hb⟩; have n0_ := Aside0.mk (Kd.R_below (rZ HO_6.out) hb); have n1_ := Aside0.mk (Kd.R_below (rZ HO_7.out) hb); have n2_ := Aside0.mk (Kd.R_below (rZ HO_10.out) hb); have n3_ := Aside0.mk (Kd.R_below (rZ HO_11.out) hb); have n4_ := Aside0.mk (Kd.R_below (rZ HO_12.out) hb); have n5_ := Aside0.mk (below_step (bZ HB.out) hb); clear HO_6; clear HO_7; clear HO_10; clear HO_11; clear HO_12; clear HB; have HO_6 := n0_; have HO_7 := n1_; have HO_10 := n2_; have HO_11 := n3_; have HO_12 := n4_; have HB := n5_; clear n0_ n1_ n2_ n3_ n4_ n5_; (try clear hb); (try clear hb2); (try clear hk); (try clear hi); obtain ⟨Ao50, co50, eo50⟩ := Kd.R_slice HO_12.out; subst eo50) | (go_at_call 28; (with_reducible refine (span_Total.calls kj16 _ _ t543 t553 _ ?side1 ?side2 A41.out).mono ?_); (case side1 => repeat (first | exact (Kd.R_reads' HO_12.out).2.2 | (with_reducible refine Kd.C_alloc ?_ _) | (with_reducible refine Kd.C_drewN ?_ _) | (with_reducible refine Kd.C_drew ?_))); (case side2 => exact (Kd.R_reads' HO_12.out).2.1); rintro e w51 ⟨rfl, hb⟩; have n0_ := Aside0.mk (Kd.R_below (rZ HO_6.out) hb); have n1_ := Aside0.mk (Kd.R_below (rZ HO_7.out) hb); have n2_ := Aside0.mk (Kd.R_below (rZ HO_10.out) hb); have n3_ := Aside0.mk (Kd.R_below (rZ HO_11.out) hb); have n4_ := Aside0.mk (Kd.R_below (rZ HO_12.out) hb); have n5_ := Aside0.mk (below_step (bZ HB.out) hb); clear HO_6; clear HO_7; clear HO_10; clear HO_11; clear HO_12; clear HB; have HO_6 := n0_; have HO_7 := n1_; have HO_10 := n2_; have HO_11 := n3_; have HO_12 := n4_; have HB := n5_; clear n0_ n1_ n2_ n3_ n4_ n5_; (try clear hb); (try clear hb2); (try clear hk); (try clear hi)) | (go_at_call 28; (with_reducible refine (span_Total.calls kj16 _ _ t540 t554 _ ?side1 ?side2 A42.out).mono ?_); (case side1 => repeat (first | exact (Kd.R_reads' HO_11.out).2.2 | (with_reducible refine Kd.C_alloc ?_ _) | (with_reducible refine Kd.C_drewN ?_ _) | (with_reducible refine Kd.C_drew ?_))); (case side2 => exact (Kd.R_reads' HO_11.out).2.1); rintro e w52 ⟨rfl, hb⟩; have n0_ := Aside0.mk (Kd.R_below (rZ HO_6.out) hb); have n1_ := Aside0.mk (Kd.R_below (rZ HO_7.out) hb); have n2_ := Aside0.mk (Kd.R_below (rZ HO_10.out) hb); have n3_ := Aside0.mk (Kd.R_below (rZ HO_11.out) hb); have n4_ := Aside0.mk (Kd.R_below (rZ HO_12.out) hb); have n5_ := Aside0.mk (below_step (bZ HB.out) hb); clear HO_6; clear HO_7; clear HO_10; clear HO_11; clear HO_12; clear HB; have HO_6 := n0_; have HO_7 := n1_; have HO_10 := n2_; have HO_11 := n3_; have HO_12 := n4_; have HB := n5_; clear n0_ n1_ n2_ n3_ n4_ n5_; (try clear hb); (try clear hb2); (try clear hk); (try clear hi)))
          go_ret
          exact ⟨by first | rfl | (simp [errW_none, errW_some] <;> rfl) | (simp [*, errW_none, errW_some] <;> rfl) | (exfalso; simp_all only [aside0_iff, Option.some.injEq, reduceCtorEq]), by repeat (first | (with_reducible first | exact HB.out | apply below_alloc | apply pw_below_drewN | apply below_drew1) | exact HB.out)⟩
         ·rw [if_neg c43] at H
          have c43b0 : ((wrap64 (t553 + t554)) == x8_1) = false := beq_eq_false_iff_ne.mpr c43
          have c43b1 : ((wrap64 (t553 + t554)) != x8_1) = true := bne_iff_ne.mpr c43
          exact absurd ((Option.some.inj H).trans HLAW.out) (by decide)
        ·rw [if_neg c40] at H
         have c40b0 : ((wrap64 (t550 + t551)) == (wrap64 (x8_1 + t552))) = false := beq_eq_false_iff_ne.mpr c40
         have c40b1 : ((wrap64 (t550 + t551)) != (wrap64 (x8_1 + t552))) = true := bne_iff_ne.mpr c40
         exact absurd ((Option.some.inj H).trans HLAW.out) (by decide)
       ·rw [if_neg c36] at H
        have c36b0 : (t549 == x8_1) = false := beq_eq_false_iff_ne.mpr c36
        have c36b1 : (t549 != x8_1) = true := bne_iff_ne.mpr c36
        exact absurd ((Option.some.inj H).trans HLAW.out) (by decide)

/-- THE ONE PURE STATEMENT of l11_SpanTotals: yours. -/
def l11_SpanTotals.Pure : Prop := ∀ (l0 : List (S49)) (l1 : List (S49)), (l0.length ≤ maxLen ∧ l0.length * 2 ≤ 140737488351232 ∧ ∀ x1_ ∈ l0, ((Lit.int .i8 x1_.f0).wf = true) ∧ ((Lit.int .i8 x1_.f1).wf = true)) → (l1.length ≤ maxLen ∧ l1.length * 2 ≤ 140737488351232 ∧ ∀ x1_ ∈ l1, ((Lit.int .i8 x1_.f0).wf = true) ∧ ((Lit.int .i8 x1_.f1).wf = true)) → ∃ k, l11_SpanTotals.f k l0 l1 = some true

-- NOT PRINTED: function 9 (l11_SpanOrder)

end Go.Proofs.Ytebggajdojdebaa.PS
