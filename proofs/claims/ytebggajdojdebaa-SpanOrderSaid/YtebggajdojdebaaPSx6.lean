/- Plain Lean functions with the answers of the Go functions that these laws reach, and proofs that the calls come to them; written by this session's program. -/
import Derived.Test.YtebggajdojdebaaPSx0
namespace Go.Proofs.Ytebggajdojdebaa.PS
open Go.RowKit Go.Proofs.YtebggajdojdebaaW.PrintWords Go.Proofs.YtebggajdojdebaaW.PrintLast Go.Proofs.YtebggajdojdebaaW.PrintMore
attribute [local go_sem] max2_int min2_int max_two min_two max_three min_three max_four min_four   -- for this text's walks alone
set_option linter.unusedVariables false
set_option linter.unusedSimpArgs false

/-! ### l11_short: function 11 -/
def l11_short.f (l0 : List (S24)) : Option ((List (S24))) := (some (([] : List (S24)) : List (S24))).bind fun y191 => (if 0 ≤ (mn (l0.length : Int) 12) then (if (mn (l0.length : Int) 12) ≤ (l0.length : Int) then ((some (l0.take ((mn (l0.length : Int) 12) : Int).toNat : List (S24))).bind fun y194 => (if y191.length + y194.length < 8796093022208 then (some (y191 ++ y194)) else (none))) else (none)) else (none))
set_option maxHeartbeats 8000000 in
set_option maxRecDepth 100000 in
theorem l11_short.calls (A0 : Option Addr) (c0 : Nat) (l0 : List (S24)) (r : List (S24)) (w : World) (hr0 : Kd.C k24 w A0 l0.length l0) (hc0 : l0.length ≤ c0) (h : l11_short.f l0 = some r) :
  Calls Try.prog 11 #[.slice A0 l0.length c0] w fun e w' => ∃ v0_ : Value, e = .returned (v0_) ∧ Kd.R k24 24 w' w.heap.size (fun _ => True) v0_ r ∧ Below w.heap.size w w' := by
 have HR0 := Aside0.mk hr0
 have HC0 := Aside0.mk hc0
 clear hr0 hc0
 have HB := Aside0.mk (Below.refl w.heap.size w)
 have H : ((some (([] : List (S24)) : List (S24))).bind fun y191 => (if 0 ≤ (mn (l0.length : Int) 12) then (if (mn (l0.length : Int) 12) ≤ (l0.length : Int) then ((some (l0.take ((mn (l0.length : Int) 12) : Int).toNat : List (S24))).bind fun y194 => (if y191.length + y194.length < 8796093022208 then (some (y191 ++ y194)) else (none))) else (none)) else (none))) = some r := h
 clear h
 obtain ⟨y191, hy191⟩ : ∃ y_ : List (S24), y_ = (([] : List (S24))) := ⟨_, rfl⟩
 replace H : (if 0 ≤ (mn (l0.length : Int) 12) then (if (mn (l0.length : Int) 12) ≤ (l0.length : Int) then ((some (l0.take ((mn (l0.length : Int) 12) : Int).toNat : List (S24))).bind fun y194 => (if y191.length + y194.length < 8796093022208 then (some (y191 ++ y194)) else (none))) else (none)) else (none)) = some r := by first | (rw [hy191]; with_reducible exact H) | (have H2_ := (Option.bind_some _ _).symm.trans H; rw [hy191]; with_reducible exact H2_) | (have H2_ := (Option.bind_some _ _).symm.trans H; with_reducible exact H2_) | with_reducible exact H | (rw [hy191]; exact H) | exact H
 have Ny191 := Aside0.mk hy191
 clear hy191
 obtain ⟨ji2, hji2⟩ : ∃ j_ : Int, (mn (l0.length : Int) 12) = j_ := ⟨_, rfl⟩
 replace H : (if 0 ≤ (ji2) then (if (ji2) ≤ (l0.length : Int) then ((some (l0.take ((ji2) : Int).toNat : List (S24))).bind fun y194 => (if y191.length + y194.length < 8796093022208 then (some (y191 ++ y194)) else (none))) else (none)) else (none)) = some r := by first | (rw [hji2] at H; exact H) | (simp only [hji2] at H ⊢; exact H)
 (try (have hji2h : ji2 ≤ 12 := by (rw [← hji2]; unfold mn; (repeat' split) <;> omega)))
 (try (have hji2g : ji2 ≤ 64 := by omega))
 (try (have hji2l : 0 ≤ ji2 := by (rw [← hji2]; unfold mn; (repeat' split) <;> omega)))
 (try (have hji2m : 0 ≤ ji2 := by omega))
 have hji2_ : (if 12 < (l0.length : Int) then 12 else (l0.length : Int)) = ji2 := hji2
 by_cases c3 : 0 ≤ (ji2)
 ·rw [if_pos c3] at H
  have c3b0 := eq_true c3
  have c3b1 : decide (0 ≤ (ji2)) = true := decide_eq_true c3
  clear c3
  by_cases c4 : (ji2) ≤ (l0.length : Int)
  ·rw [if_pos c4] at H
   have c4b0 := eq_true c4
   have c4b1 : decide ((ji2) ≤ (l0.length : Int)) = true := decide_eq_true c4
   clear c4
   obtain ⟨y194, hy194⟩ : ∃ y_ : List (S24), y_ = (l0.take ((ji2) : Int).toNat) := ⟨_, rfl⟩
   replace H : (if y191.length + y194.length < 8796093022208 then (some (y191 ++ y194)) else (none)) = some r := by first | (rw [hy194]; with_reducible exact H) | (have H2_ := (Option.bind_some _ _).symm.trans H; rw [hy194]; with_reducible exact H2_) | (have H2_ := (Option.bind_some _ _).symm.trans H; with_reducible exact H2_) | with_reducible exact H | (rw [hy194]; exact H) | exact H
   have Ny194 := Aside0.mk hy194
   clear hy194
   by_cases c5 : y191.length + y194.length < 8796093022208
   ·rw [if_pos c5] at H
    have LMc5 := Aside0.mk c5
    clear c5
    obtain ⟨y198, hy198⟩ : ∃ y_ : List (S24), y_ = (y191 ++ y194) := ⟨_, rfl⟩
    replace H : (some y198) = some r := by first | (rw [hy198]; with_reducible exact H) | (have H2_ := (Option.bind_some _ _).symm.trans H; rw [hy198]; with_reducible exact H2_) | (have H2_ := (Option.bind_some _ _).symm.trans H; with_reducible exact H2_) | with_reducible exact H | (rw [hy198]; exact H) | exact H
    have Ny198 := Aside0.mk hy198
    clear hy198
    obtain rfl := Option.some.inj H
    go_enter Try.func11, Try.ntmps11
    go_wp2_with (first | ((with_reducible refine gate_dst (N := 3) rfl ?_); refine Kd.R_lit k24 _ 24 ?hg (N := 3) ?hd (xs := ([] : List (S24))) (inner := []) (ok := fun _ => True) (okp := fun _ => True) ?hr ?hp (fun _ hk => hk) trivial (Below.refl _ _) (Nat.le_refl _) (by simp) ?_; (case hd => rfl); (case hg => rfl); (case hr => first | (go_simp; done) | (go_simp; rfl)); (case hp => exact (Reps.none _ _)); intro v192 w6 ho7 hb hg_ hnew_; clear hg_ hnew_; (first | rw [← Ny191.out] at ho7 | (simp only [Int.reduceToNat] at ho7; rw [← Ny191.out] at ho7)); have n0_ := Aside0.mk (Kd.R_lower ho7 (below_size (bZ HB.out))); have n1_ := Aside0.mk (below_step (bZ HB.out) hb); clear HB; have HO193 := n0_; have HB := n1_; clear n0_ n1_; clear hb ho7; have q8 : ((ji2) : Int) ≤ ((l0.length : Int) : Int) := of_decide_eq_true (by first | (with_reducible assumption) | assumption); obtain ⟨i08, hi08, _, hsz8, _⟩ := info_parts info24; have hroom8 : l0.length ≤ c0 := HC0.out; have hC8 : Kd.C k24 _ A0 l0.length l0 := HR0.out; have hcut8 := cut_to (P := Try.prog) 22 24 .i64 Try.underlying22 hi08 A0 l0.length c0 (ji2) (of_decide_eq_true (by first | (with_reducible assumption) | assumption)) q8 hroom8; have hr8 := Kd.C_take (m := ((ji2) : Int).toNat) hC8 (by omega); have hy8 : y194.length = ((ji2) : Int).toNat := (by rw [Ny194.out, List.length_take]; omega); rw [← Ny194.out] at hr8; rw [← hy8] at hcut8; have HR197 := Aside0.mk hr8; have HC197 := Aside0.mk (show y194.length ≤ c0 from by omega); clear hr8 hC8 hroom8 hi08 hsz8; have KY8 := Aside0.mk hy8; clear hy8; replace q8 := eq_true q8) | ((with_reducible refine gate_builtin (b := .append) (xs := #[.tmp 3, .tmp 8]) rfl ?_); at_builtin; refine Kd.R_append_rows k24 (w0 := w) w.heap.size rfl (.tmp 3) (.tmp 8) 22 24 (.agg #[(.int .i64 0), (.int .i64 0)]) 16 rfl Try.underlying22 info24 rfl (by decide) (by omega) v192 y191 y194 _ _ _ (fun _ => True) (fun _ => False) rfl rfl ?aO ?aR (fun _ _ h => h) (fun _ h => h.elim) ?aF ?aB ?aS ?aL ?_; (case aR => repeat (first | exact (Kd.C_below HR197.out HB.out) | (with_reducible refine Kd.C_alloc ?_ _) | (with_reducible refine Kd.C_drewN ?_ _) | (with_reducible refine Kd.C_drew ?_))); (case aB => exact (bZ HB.out)); (case aF => exact (fun _ _ => trivial)); (case aO => exact (rZ HO193.out)); (case aS => exact (below_size (bZ HB.out))); (case aL => have := LMc5.out; omega); intro v199 w9 ho hb hg hat; rw [← Ny198.out] at ho; have n0_ := Aside0.mk (hb); have n1_ := Aside0.mk (ho); clear HB; clear HO193; have HB := n0_; have HO200 := n1_; clear n0_ n1_; clear ho hb hg hat))
    go_ret
    exact ⟨_, by first | rfl | (simp [errW_none, errW_some] <;> rfl) | (simp only [← hji2]; first | rfl | (simp [errW_none, errW_some] <;> rfl)) | (simp [*, errW_none, errW_some] <;> rfl) | (exfalso; simp_all only [aside0_iff, Option.some.injEq, reduceCtorEq]), by (with_reducible repeat (first | apply Kd.R_alloc | apply Kd.R_drewN | apply Kd.R_drew)); exact HO200.out, by repeat (first | (with_reducible first | exact HB.out | apply below_alloc | apply pw_below_drewN | apply below_drew1) | exact HB.out)⟩
   ·rw [if_neg c5] at H
    exact absurd H (by simp)
  ·rw [if_neg c4] at H
   exact absurd H (by simp)
 ·rw [if_neg c3] at H
  exact absurd H (by simp)

/-! ### r11_Valid: function 13 -/
def r11_Valid.l0 : Nat → List (S24) → Int → Option (Bool)
 | 0, _, _ => none
 | k + 1, x0, x3 => if x3 < (x0.length : Int) then (if 0 ≤ x3 then (if ((rd_T24 x0 x3).f0) ≥ ((rd_T24 x0 x3).f1) then (some false) else (if x3 > 0 then (if 0 ≤ (wrap64 (x3 - 1)) then (if (wrap64 (x3 - 1)) < (x0.length : Int) then (if ((rd_T24 x0 (wrap64 (x3 - 1))).f1) ≥ ((rd_T24 x0 x3).f0) then (some false) else (r11_Valid.l0 k x0 (wrap64 (x3 + 1)))) else (none)) else (none)) else (r11_Valid.l0 k x0 (wrap64 (x3 + 1))))) else (none)) else (some true)
def r11_Valid.f (k : Nat) (l0 : List (S24)) : Option (Bool) := r11_Valid.l0 k l0 0
theorem r11_Valid.mono_l : ∀ k, (∀ y0 y1, LeO (r11_Valid.l0 k y0 y1) (r11_Valid.l0 (k + 1) y0 y1))
 | 0 => fun _ _ r h => by simp [r11_Valid.l0] at h
 | k + 1 => by
  have ih0 := r11_Valid.mono_l k
  ·intro y0 y1
   unfold r11_Valid.l0
   repeat' first
   | (with_reducible exact ih0 _ _)
   | (with_reducible exact LeO.refl _)
   | (with_reducible exact LeO.none _)
   | (with_reducible refine LeO.ite ?_ ?_)
   | (with_reducible refine LeO.bind ?_ (fun _ => ?_))
   | exact ih0 _ _
   | exact LeO.none _
   | refine LeO.ite ?_ ?_
   | refine LeO.bind ?_ (fun _ => ?_)
theorem r11_Valid.mono : ∀ a0 k, LeO (r11_Valid.f k a0) (r11_Valid.f (k + 1) a0) := by
 intro a0 k
 have ih0 := r11_Valid.mono_l k
 unfold r11_Valid.f
 repeat' first
   | (with_reducible exact ih0 _ _)
   | (with_reducible exact LeO.refl _)
   | (with_reducible exact LeO.none _)
   | (with_reducible refine LeO.ite ?_ ?_)
   | (with_reducible refine LeO.bind ?_ (fun _ => ?_))
   | exact ih0 _ _
   | exact LeO.none _
   | refine LeO.ite ?_ ?_
   | refine LeO.bind ?_ (fun _ => ?_)
set_option maxHeartbeats 8000000 in
set_option maxRecDepth 100000 in
theorem r11_Valid.calls (k : Nat) (A0 : Option Addr) (c0 : Nat) (l0 : List (S24)) (r : Bool) (w : World) (hr0 : Kd.C k24 w A0 l0.length l0) (hc0 : l0.length ≤ c0) (h : r11_Valid.f k l0 = some r) :
  Calls Try.prog 13 #[.slice A0 l0.length c0] w fun e w' => e = .returned (.bool r) ∧ Drawn0 w w' := by
 have HR0 := Aside0.mk hr0
 have HC0 := Aside0.mk hc0
 clear hr0 hc0
 have H : (r11_Valid.l0 k l0 0) = some r := h
 clear h
 have H' := Aside0.mk H
 clear H
 go_enter Try.func13, Try.ntmps13
 go_wp2
 repeat (go_quiet (fail); try go_wp2)
 go_loopg [3] k (fun kq v3 w' => ∃ (x3_1 : Int), v3 = .int .i64 x3_1 ∧ Aside0 (r11_Valid.l0 kq l0 x3_1 = some r) ∧ Aside0 (kq ≤ k) ∧ Drawn0 w w')
 case atStart => exact ⟨(0), (by first | rfl | (simp; done) | (simp [*]; done)), H', ⟨Nat.le_refl _⟩, by repeat (first | exact Drawn0.refl _ | apply Drawn0.step)⟩
 case round =>
  clear H'
  try clear c1
  obtain ⟨x3_1, rfl, HA, HK1, ⟨m1, rfl⟩⟩ := hrel
  cases gk with
  | zero => exact absurd HA.out (by simp [r11_Valid.l0])
  | succ k1 =>
   have H := HA.out
   clear HA
   simp only [r11_Valid.l0] at H
   by_cases c2 : x3_1 < (l0.length : Int)
   ·rw [if_pos c2] at H
    have c2b0 : decide (x3_1 < (l0.length : Int)) = true := decide_eq_true c2
    clear c2
    by_cases c3 : 0 ≤ x3_1
    ·rw [if_pos c3] at H
     have c3b0 : decide (0 ≤ x3_1) = true := decide_eq_true c3
     clear c3
     by_cases c4 : ((rd_T24 l0 x3_1).f0) ≥ ((rd_T24 l0 x3_1).f1)
     ·rw [if_pos c4] at H
      have c4b0 : decide (((rd_T24 l0 x3_1).f1) ≤ ((rd_T24 l0 x3_1).f0)) = true := decide_eq_true c4
      clear c4
      obtain rfl := Option.some.inj H
      have p201 : 0 ≤ (x3_1 : Int) := of_decide_eq_true (by first | (with_reducible assumption) | assumption)
      have q201 : x3_1 < (l0.length : Int) := of_decide_eq_true (by first | (with_reducible assumption) | assumption)
      obtain ⟨ad201, e201, hx201_0, hx201_1⟩ := at_T24 HR0.out x3_1 p201 q201
      cases e201
      replace p201 := eq_true p201
      replace q201 := eq_true q201
      have p202 : 0 ≤ (x3_1 : Int) := of_decide_eq_true (by first | (with_reducible assumption) | assumption)
      have q202 : x3_1 < (l0.length : Int) := of_decide_eq_true (by first | (with_reducible assumption) | assumption)
      obtain ⟨ad202, e202, hx202_0, hx202_1⟩ := at_T24 HR0.out x3_1 p202 q202
      obtain rfl : ad201 = ad202 := (by injection e202)
      replace p202 := eq_true p202
      replace q202 := eq_true q202
      go_wp2
      repeat (go_quiet (fail); try go_wp2)
      go_ret
      exact ⟨by first | rfl | (simp; done) | (simp [*]; done), by repeat (first | exact Drawn0.refl _ | apply Drawn0.step)⟩
     ·rw [if_neg c4] at H
      have c4b0 : decide (((rd_T24 l0 x3_1).f1) ≤ ((rd_T24 l0 x3_1).f0)) = false := decide_eq_false c4
      clear c4
      by_cases c5 : x3_1 > 0
      ·rw [if_pos c5] at H
       have c5b0 : decide (0 < x3_1) = true := decide_eq_true c5
       clear c5
       obtain ⟨ji6, hji6⟩ : ∃ j_ : Int, (wrap64 (x3_1 - 1)) = j_ := ⟨_, rfl⟩
       replace H : (if 0 ≤ (ji6) then (if (ji6) < (l0.length : Int) then (if ((rd_T24 l0 (ji6)).f1) ≥ ((rd_T24 l0 x3_1).f0) then (some false) else (r11_Valid.l0 k1 l0 (wrap64 (x3_1 + 1)))) else (none)) else (none)) = some r := by first | (rw [hji6] at H; exact H) | (simp only [hji6] at H ⊢; exact H)
       have hji6w : (IntKind.i64.wrap (x3_1 - 1)) = ji6 := (i64_w _).trans hji6
       by_cases c7 : 0 ≤ (ji6)
       ·rw [if_pos c7] at H
        have c7b0 : decide (0 ≤ (ji6)) = true := decide_eq_true c7
        clear c7
        by_cases c8 : (ji6) < (l0.length : Int)
        ·rw [if_pos c8] at H
         have c8b0 : decide ((ji6) < (l0.length : Int)) = true := decide_eq_true c8
         clear c8
         by_cases c9 : ((rd_T24 l0 (ji6)).f1) ≥ ((rd_T24 l0 x3_1).f0)
         ·rw [if_pos c9] at H
          have c9b0 : decide (((rd_T24 l0 x3_1).f0) ≤ ((rd_T24 l0 (ji6)).f1)) = true := decide_eq_true c9
          clear c9
          obtain rfl := Option.some.inj H
          have p201 : 0 ≤ (x3_1 : Int) := of_decide_eq_true (by first | (with_reducible assumption) | assumption)
          have q201 : x3_1 < (l0.length : Int) := of_decide_eq_true (by first | (with_reducible assumption) | assumption)
          obtain ⟨ad201, e201, hx201_0, hx201_1⟩ := at_T24 HR0.out x3_1 p201 q201
          cases e201
          replace p201 := eq_true p201
          replace q201 := eq_true q201
          have p202 : 0 ≤ (x3_1 : Int) := of_decide_eq_true (by first | (with_reducible assumption) | assumption)
          have q202 : x3_1 < (l0.length : Int) := of_decide_eq_true (by first | (with_reducible assumption) | assumption)
          obtain ⟨ad202, e202, hx202_0, hx202_1⟩ := at_T24 HR0.out x3_1 p202 q202
          obtain rfl : ad201 = ad202 := (by injection e202)
          replace p202 := eq_true p202
          replace q202 := eq_true q202
          have p203 : 0 ≤ ((ji6) : Int) := of_decide_eq_true (by first | (with_reducible assumption) | assumption)
          have q203 : (ji6) < (l0.length : Int) := of_decide_eq_true (by first | (with_reducible assumption) | assumption)
          obtain ⟨ad203, e203, hx203_0, hx203_1⟩ := at_T24 HR0.out (ji6) p203 q203
          obtain rfl : ad201 = ad203 := (by injection e203)
          replace p203 := eq_true p203
          replace q203 := eq_true q203
          have p204 : 0 ≤ (x3_1 : Int) := of_decide_eq_true (by first | (with_reducible assumption) | assumption)
          have q204 : x3_1 < (l0.length : Int) := of_decide_eq_true (by first | (with_reducible assumption) | assumption)
          obtain ⟨ad204, e204, hx204_0, hx204_1⟩ := at_T24 HR0.out x3_1 p204 q204
          obtain rfl : ad201 = ad204 := (by injection e204)
          replace p204 := eq_true p204
          replace q204 := eq_true q204
          go_wp2
          repeat (go_quiet (fail); try go_wp2)
          go_ret
          exact ⟨by first | rfl | (simp; done) | (simp only [← hji6] <;> (first | rfl | simp)) | (simp [*]; done), by repeat (first | exact Drawn0.refl _ | apply Drawn0.step)⟩
         ·rw [if_neg c9] at H
          have c9b0 : decide (((rd_T24 l0 x3_1).f0) ≤ ((rd_T24 l0 (ji6)).f1)) = false := decide_eq_false c9
          clear c9
          have H' := Aside0.mk H
          clear H
          have p201 : 0 ≤ (x3_1 : Int) := of_decide_eq_true (by first | (with_reducible assumption) | assumption)
          have q201 : x3_1 < (l0.length : Int) := of_decide_eq_true (by first | (with_reducible assumption) | assumption)
          obtain ⟨ad201, e201, hx201_0, hx201_1⟩ := at_T24 HR0.out x3_1 p201 q201
          cases e201
          replace p201 := eq_true p201
          replace q201 := eq_true q201
          have p202 : 0 ≤ (x3_1 : Int) := of_decide_eq_true (by first | (with_reducible assumption) | assumption)
          have q202 : x3_1 < (l0.length : Int) := of_decide_eq_true (by first | (with_reducible assumption) | assumption)
          obtain ⟨ad202, e202, hx202_0, hx202_1⟩ := at_T24 HR0.out x3_1 p202 q202
          obtain rfl : ad201 = ad202 := (by injection e202)
          replace p202 := eq_true p202
          replace q202 := eq_true q202
          have p203 : 0 ≤ ((ji6) : Int) := of_decide_eq_true (by first | (with_reducible assumption) | assumption)
          have q203 : (ji6) < (l0.length : Int) := of_decide_eq_true (by first | (with_reducible assumption) | assumption)
          obtain ⟨ad203, e203, hx203_0, hx203_1⟩ := at_T24 HR0.out (ji6) p203 q203
          obtain rfl : ad201 = ad203 := (by injection e203)
          replace p203 := eq_true p203
          replace q203 := eq_true q203
          have p204 : 0 ≤ (x3_1 : Int) := of_decide_eq_true (by first | (with_reducible assumption) | assumption)
          have q204 : x3_1 < (l0.length : Int) := of_decide_eq_true (by first | (with_reducible assumption) | assumption)
          obtain ⟨ad204, e204, hx204_0, hx204_1⟩ := at_T24 HR0.out x3_1 p204 q204
          obtain rfl : ad201 = ad204 := (by injection e204)
          replace p204 := eq_true p204
          replace q204 := eq_true q204
          go_wp2
          repeat (go_quiet (fail); try go_wp2)
          go_roundg k1
          case measure => have := HK1.out; omega
          case rel => exact ⟨(wrap64 (x3_1 + 1)), (by first | rfl | (simp; done) | (simp [*]; done)), H', ⟨by have := HK1.out; omega⟩, by repeat (first | exact Drawn0.refl _ | apply Drawn0.step)⟩
        ·rw [if_neg c8] at H
         exact absurd H (by simp)
       ·rw [if_neg c7] at H
        exact absurd H (by simp)
      ·rw [if_neg c5] at H
       have c5b0 : decide (0 < x3_1) = false := decide_eq_false c5
       clear c5
       have H' := Aside0.mk H
       clear H
       have p201 : 0 ≤ (x3_1 : Int) := of_decide_eq_true (by first | (with_reducible assumption) | assumption)
       have q201 : x3_1 < (l0.length : Int) := of_decide_eq_true (by first | (with_reducible assumption) | assumption)
       obtain ⟨ad201, e201, hx201_0, hx201_1⟩ := at_T24 HR0.out x3_1 p201 q201
       cases e201
       replace p201 := eq_true p201
       replace q201 := eq_true q201
       have p202 : 0 ≤ (x3_1 : Int) := of_decide_eq_true (by first | (with_reducible assumption) | assumption)
       have q202 : x3_1 < (l0.length : Int) := of_decide_eq_true (by first | (with_reducible assumption) | assumption)
       obtain ⟨ad202, e202, hx202_0, hx202_1⟩ := at_T24 HR0.out x3_1 p202 q202
       obtain rfl : ad201 = ad202 := (by injection e202)
       replace p202 := eq_true p202
       replace q202 := eq_true q202
       go_wp2
       repeat (go_quiet (fail); try go_wp2)
       go_roundg k1
       case measure => have := HK1.out; omega
       case rel => exact ⟨(wrap64 (x3_1 + 1)), (by first | rfl | (simp; done) | (simp [*]; done)), H', ⟨by have := HK1.out; omega⟩, by repeat (first | exact Drawn0.refl _ | apply Drawn0.step)⟩
    ·rw [if_neg c3] at H
     exact absurd H (by simp)
   ·rw [if_neg c2] at H
    have c2b0 : decide (x3_1 < (l0.length : Int)) = false := decide_eq_false c2
    clear c2
    obtain rfl := Option.some.inj H
    go_wp2
    repeat (go_quiet (fail); try go_wp2)
    go_ret
    exact ⟨by first | rfl | (simp; done) | (simp [*]; done), by repeat (first | exact Drawn0.refl _ | apply Drawn0.step)⟩

/-! ### r11_Has: function 25 -/
def r11_Has.l0 : Nat → List (S24) → Int → Int → Option (Bool)
 | 0, _, _, _ => none
 | k + 1, x0, x1, x5 => if x5 < (x0.length : Int) then (if 0 ≤ x5 then (if ((rd_T24 x0 x5).f0) ≤ x1 then (if x1 < ((rd_T24 x0 x5).f1) then (some true) else (r11_Has.l0 k x0 x1 (wrap64 (x5 + 1)))) else (r11_Has.l0 k x0 x1 (wrap64 (x5 + 1)))) else (none)) else (some false)
def r11_Has.f (k : Nat) (l0 : List (S24)) (a1 : Int) : Option (Bool) := r11_Has.l0 k l0 a1 0
theorem r11_Has.mono_l : ∀ k, (∀ y0 y1 y2, LeO (r11_Has.l0 k y0 y1 y2) (r11_Has.l0 (k + 1) y0 y1 y2))
 | 0 => fun _ _ _ r h => by simp [r11_Has.l0] at h
 | k + 1 => by
  have ih0 := r11_Has.mono_l k
  ·intro y0 y1 y2
   unfold r11_Has.l0
   repeat' first
   | (with_reducible exact ih0 _ _ _)
   | (with_reducible exact LeO.refl _)
   | (with_reducible exact LeO.none _)
   | (with_reducible refine LeO.ite ?_ ?_)
   | (with_reducible refine LeO.bind ?_ (fun _ => ?_))
   | exact ih0 _ _ _
   | exact LeO.none _
   | refine LeO.ite ?_ ?_
   | refine LeO.bind ?_ (fun _ => ?_)
theorem r11_Has.mono : ∀ a0 a1 k, LeO (r11_Has.f k a0 a1) (r11_Has.f (k + 1) a0 a1) := by
 intro a0 a1 k
 have ih0 := r11_Has.mono_l k
 unfold r11_Has.f
 repeat' first
   | (with_reducible exact ih0 _ _ _)
   | (with_reducible exact LeO.refl _)
   | (with_reducible exact LeO.none _)
   | (with_reducible refine LeO.ite ?_ ?_)
   | (with_reducible refine LeO.bind ?_ (fun _ => ?_))
   | exact ih0 _ _ _
   | exact LeO.none _
   | refine LeO.ite ?_ ?_
   | refine LeO.bind ?_ (fun _ => ?_)
set_option maxHeartbeats 8000000 in
set_option maxRecDepth 100000 in
theorem r11_Has.calls (k : Nat) (A0 : Option Addr) (c0 : Nat) (l0 : List (S24)) (a1 : Int) (r : Bool) (w : World) (hr0 : Kd.C k24 w A0 l0.length l0) (hc0 : l0.length ≤ c0) (h : r11_Has.f k l0 a1 = some r) :
  Calls Try.prog 25 #[.slice A0 l0.length c0, .int .i64 a1] w fun e w' => e = .returned (.bool r) ∧ Drawn0 w w' := by
 have HR0 := Aside0.mk hr0
 have HC0 := Aside0.mk hc0
 clear hr0 hc0
 have H : (r11_Has.l0 k l0 a1 0) = some r := h
 clear h
 have H' := Aside0.mk H
 clear H
 go_enter Try.func25, Try.ntmps25
 go_wp2
 go_loopg [5] k (fun kq v5 w' => ∃ (x5_1 : Int), v5 = .int .i64 x5_1 ∧ Aside0 (r11_Has.l0 kq l0 a1 x5_1 = some r) ∧ Aside0 (kq ≤ k) ∧ Drawn0 w w')
 case atStart => exact ⟨(0), (by first | rfl | (simp; done) | (simp [*]; done)), H', ⟨Nat.le_refl _⟩, by repeat (first | exact Drawn0.refl _ | apply Drawn0.step)⟩
 case round =>
  clear H'
  try clear c2
  try clear p2
  obtain ⟨x5_1, rfl, HA, HK1, ⟨m1, rfl⟩⟩ := hrel
  cases gk with
  | zero => exact absurd HA.out (by simp [r11_Has.l0])
  | succ k1 =>
   have H := HA.out
   clear HA
   simp only [r11_Has.l0] at H
   by_cases c3 : x5_1 < (l0.length : Int)
   ·rw [if_pos c3] at H
    have c3b0 : decide (x5_1 < (l0.length : Int)) = true := decide_eq_true c3
    clear c3
    by_cases c4 : 0 ≤ x5_1
    ·rw [if_pos c4] at H
     have c4b0 : decide (0 ≤ x5_1) = true := decide_eq_true c4
     clear c4
     by_cases c5 : ((rd_T24 l0 x5_1).f0) ≤ a1
     ·rw [if_pos c5] at H
      have c5b0 : decide (((rd_T24 l0 x5_1).f0) ≤ a1) = true := decide_eq_true c5
      clear c5
      by_cases c6 : a1 < ((rd_T24 l0 x5_1).f1)
      ·rw [if_pos c6] at H
       have c6b0 : decide (a1 < ((rd_T24 l0 x5_1).f1)) = true := decide_eq_true c6
       clear c6
       obtain rfl := Option.some.inj H
       have p205 : 0 ≤ (x5_1 : Int) := of_decide_eq_true (by first | (with_reducible assumption) | assumption)
       have q205 : x5_1 < (l0.length : Int) := of_decide_eq_true (by first | (with_reducible assumption) | assumption)
       obtain ⟨ad205, e205, hx205_0, hx205_1⟩ := at_T24 HR0.out x5_1 p205 q205
       cases e205
       replace p205 := eq_true p205
       replace q205 := eq_true q205
       have p206 : 0 ≤ (x5_1 : Int) := of_decide_eq_true (by first | (with_reducible assumption) | assumption)
       have q206 : x5_1 < (l0.length : Int) := of_decide_eq_true (by first | (with_reducible assumption) | assumption)
       obtain ⟨ad206, e206, hx206_0, hx206_1⟩ := at_T24 HR0.out x5_1 p206 q206
       obtain rfl : ad205 = ad206 := (by injection e206)
       replace p206 := eq_true p206
       replace q206 := eq_true q206
       go_wp2
       go_ret
       exact ⟨by first | rfl | (simp; done) | (simp [*]; done), by repeat (first | exact Drawn0.refl _ | apply Drawn0.step)⟩
      ·rw [if_neg c6] at H
       have c6b0 : decide (a1 < ((rd_T24 l0 x5_1).f1)) = false := decide_eq_false c6
       clear c6
       have H' := Aside0.mk H
       clear H
       have p205 : 0 ≤ (x5_1 : Int) := of_decide_eq_true (by first | (with_reducible assumption) | assumption)
       have q205 : x5_1 < (l0.length : Int) := of_decide_eq_true (by first | (with_reducible assumption) | assumption)
       obtain ⟨ad205, e205, hx205_0, hx205_1⟩ := at_T24 HR0.out x5_1 p205 q205
       cases e205
       replace p205 := eq_true p205
       replace q205 := eq_true q205
       have p206 : 0 ≤ (x5_1 : Int) := of_decide_eq_true (by first | (with_reducible assumption) | assumption)
       have q206 : x5_1 < (l0.length : Int) := of_decide_eq_true (by first | (with_reducible assumption) | assumption)
       obtain ⟨ad206, e206, hx206_0, hx206_1⟩ := at_T24 HR0.out x5_1 p206 q206
       obtain rfl : ad205 = ad206 := (by injection e206)
       replace p206 := eq_true p206
       replace q206 := eq_true q206
       go_wp2
       go_roundg k1
       case measure => have := HK1.out; omega
       case rel => exact ⟨(wrap64 (x5_1 + 1)), (by first | rfl | (simp; done) | (simp [*]; done)), H', ⟨by have := HK1.out; omega⟩, by repeat (first | exact Drawn0.refl _ | apply Drawn0.step)⟩
     ·rw [if_neg c5] at H
      have c5b0 : decide (((rd_T24 l0 x5_1).f0) ≤ a1) = false := decide_eq_false c5
      clear c5
      have H' := Aside0.mk H
      clear H
      have p205 : 0 ≤ (x5_1 : Int) := of_decide_eq_true (by first | (with_reducible assumption) | assumption)
      have q205 : x5_1 < (l0.length : Int) := of_decide_eq_true (by first | (with_reducible assumption) | assumption)
      obtain ⟨ad205, e205, hx205_0, hx205_1⟩ := at_T24 HR0.out x5_1 p205 q205
      cases e205
      replace p205 := eq_true p205
      replace q205 := eq_true q205
      go_wp2
      go_roundg k1
      case measure => have := HK1.out; omega
      case rel => exact ⟨(wrap64 (x5_1 + 1)), (by first | rfl | (simp; done) | (simp [*]; done)), H', ⟨by have := HK1.out; omega⟩, by repeat (first | exact Drawn0.refl _ | apply Drawn0.step)⟩
    ·rw [if_neg c4] at H
     exact absurd H (by simp)
   ·rw [if_neg c3] at H
    have c3b0 : decide (x5_1 < (l0.length : Int)) = false := decide_eq_false c3
    clear c3
    obtain rfl := Option.some.inj H
    go_wp2
    go_ret
    exact ⟨by first | rfl | (simp; done) | (simp [*]; done), by repeat (first | exact Drawn0.refl _ | apply Drawn0.step)⟩

/-! ### r11_bounds: function 41 -/
mutual
def r11_bounds.l0 : Nat → List (S24) → List Int → Int → Option (List Int)
 | 0, _, _, _ => none
 | k + 1, x5, x6, x7 => if x7 < (wrap64 (2 * (x5.length : Int))) then (if 0 ≤ (wrap64 (Int.tdiv x7 2)) then (if (wrap64 (Int.tdiv x7 2)) < (x5.length : Int) then (if (Int.tmod x7 2) = 1 then (r11_bounds.j1 k x5 x6 x7 ((rd_T24 x5 (wrap64 (Int.tdiv x7 2))).f1)) else (r11_bounds.j1 k x5 x6 x7 ((rd_T24 x5 (wrap64 (Int.tdiv x7 2))).f0))) else (none)) else (none)) else (some x6)
def r11_bounds.j1 : Nat → List (S24) → List Int → Int → Int → Option (List Int)
 | 0, _, _, _, _ => none
 | k + 1, x5, x6, x7, x8 => r11_bounds.l1 k x5 x6 x7 x8 0
def r11_bounds.l1 : Nat → List (S24) → List Int → Int → Int → Int → Option (List Int)
 | 0, _, _, _, _, _ => none
 | k + 1, x5, x6, x7, x8, x9 => if x9 < (x6.length : Int) then (if 0 ≤ x9 then (if (rd x6 x9) < x8 then (r11_bounds.l1 k x5 x6 x7 x8 (wrap64 (x9 + 1))) else (if (rd x6 x9) = x8 then (r11_bounds.l0 k x5 x6 (wrap64 (x7 + 1))) else ((some (([] : List Int) : List Int)).bind fun y223 => (if x9 ≤ (x6.length : Int) then ((some (x6.take (x9 : Int).toNat : List Int)).bind fun y226 => (if y223.length + y226.length < 17592186044416 then ((some (y223 ++ y226 : List Int)).bind fun y230 => (if y230.length < 17592186044416 then ((some (y230 ++ [x8] : List Int)).bind fun y233 => ((some (x6.drop (x9 : Int).toNat : List Int)).bind fun y236 => (if y233.length + y236.length < 17592186044416 then (r11_bounds.l0 k x5 (y233 ++ y236) (wrap64 (x7 + 1))) else (none)))) else (none))) else (none))) else (none))))) else (none)) else ((some (([] : List Int) : List Int)).bind fun y243 => (if 0 ≤ x9 then (if x9 ≤ (x6.length : Int) then ((some (x6.take (x9 : Int).toNat : List Int)).bind fun y246 => (if y243.length + y246.length < 17592186044416 then ((some (y243 ++ y246 : List Int)).bind fun y250 => (if y250.length < 17592186044416 then ((some (y250 ++ [x8] : List Int)).bind fun y253 => ((some (x6.drop (x9 : Int).toNat : List Int)).bind fun y256 => (if y253.length + y256.length < 17592186044416 then (r11_bounds.l0 k x5 (y253 ++ y256) (wrap64 (x7 + 1))) else (none)))) else (none))) else (none))) else (none)) else (none)))
end
def r11_bounds.f (k : Nat) (l0 : List (S24)) (l1 : List (S24)) : Option (List Int) := (some (([] : List (S24)) : List (S24))).bind fun y207 => (if y207.length + l0.length < 8796093022208 then ((some (y207 ++ l0 : List (S24))).bind fun y210 => (if y210.length + l1.length < 8796093022208 then (r11_bounds.l0 k (y210 ++ l1) (([] : List Int)) 0) else (none))) else (none))
theorem r11_bounds.mono_l : ∀ k, (∀ y0 y1 y2, LeO (r11_bounds.l0 k y0 y1 y2) (r11_bounds.l0 (k + 1) y0 y1 y2)) ∧ (∀ y0 y1 y2 y3, LeO (r11_bounds.j1 k y0 y1 y2 y3) (r11_bounds.j1 (k + 1) y0 y1 y2 y3)) ∧ (∀ y0 y1 y2 y3 y4, LeO (r11_bounds.l1 k y0 y1 y2 y3 y4) (r11_bounds.l1 (k + 1) y0 y1 y2 y3 y4))
 | 0 => ⟨fun _ _ _ r h => by simp [r11_bounds.l0] at h, fun _ _ _ _ r h => by simp [r11_bounds.j1] at h, fun _ _ _ _ _ r h => by simp [r11_bounds.l1] at h⟩
 | k + 1 => by
  obtain ⟨ih0, ih1, ih2⟩ := r11_bounds.mono_l k
  refine ⟨?_, ?_, ?_⟩
  ·intro y0 y1 y2
   unfold r11_bounds.l0
   repeat' first
   | (with_reducible exact ih0 _ _ _)
   | (with_reducible exact ih1 _ _ _ _)
   | (with_reducible exact ih2 _ _ _ _ _)
   | (with_reducible exact LeO.refl _)
   | (with_reducible exact LeO.none _)
   | (with_reducible refine LeO.ite ?_ ?_)
   | (with_reducible refine LeO.bind ?_ (fun _ => ?_))
   | exact ih0 _ _ _
   | exact ih1 _ _ _ _
   | exact ih2 _ _ _ _ _
   | exact LeO.none _
   | refine LeO.ite ?_ ?_
   | refine LeO.bind ?_ (fun _ => ?_)
  ·intro y0 y1 y2 y3
   unfold r11_bounds.j1
   repeat' first
   | (with_reducible exact ih0 _ _ _)
   | (with_reducible exact ih1 _ _ _ _)
   | (with_reducible exact ih2 _ _ _ _ _)
   | (with_reducible exact LeO.refl _)
   | (with_reducible exact LeO.none _)
   | (with_reducible refine LeO.ite ?_ ?_)
   | (with_reducible refine LeO.bind ?_ (fun _ => ?_))
   | exact ih0 _ _ _
   | exact ih1 _ _ _ _
   | exact ih2 _ _ _ _ _
   | exact LeO.none _
   | refine LeO.ite ?_ ?_
   | refine LeO.bind ?_ (fun _ => ?_)
  ·intro y0 y1 y2 y3 y4
   unfold r11_bounds.l1
   repeat' first
   | (with_reducible exact ih0 _ _ _)
   | (with_reducible exact ih1 _ _ _ _)
   | (with_reducible exact ih2 _ _ _ _ _)
   | (with_reducible exact LeO.refl _)
   | (with_reducible exact LeO.none _)
   | (with_reducible refine LeO.ite ?_ ?_)
   | (with_reducible refine LeO.bind ?_ (fun _ => ?_))
   | exact ih0 _ _ _
   | exact ih1 _ _ _ _
   | exact ih2 _ _ _ _ _
   | exact LeO.none _
   | refine LeO.ite ?_ ?_
   | refine LeO.bind ?_ (fun _ => ?_)
theorem r11_bounds.mono : ∀ a0 a1 k, LeO (r11_bounds.f k a0 a1) (r11_bounds.f (k + 1) a0 a1) := by
 intro a0 a1 k
 obtain ⟨ih0, ih1, ih2⟩ := r11_bounds.mono_l k
 unfold r11_bounds.f
 repeat' first
   | (with_reducible exact ih0 _ _ _)
   | (with_reducible exact ih1 _ _ _ _)
   | (with_reducible exact ih2 _ _ _ _ _)
   | (with_reducible exact LeO.refl _)
   | (with_reducible exact LeO.none _)
   | (with_reducible refine LeO.ite ?_ ?_)
   | (with_reducible refine LeO.bind ?_ (fun _ => ?_))
   | exact ih0 _ _ _
   | exact ih1 _ _ _ _
   | exact ih2 _ _ _ _ _
   | exact LeO.none _
   | refine LeO.ite ?_ ?_
   | refine LeO.bind ?_ (fun _ => ?_)
set_option maxHeartbeats 8000000 in
set_option maxRecDepth 100000 in
theorem r11_bounds.calls (k : Nat) (A0 : Option Addr) (c0 : Nat) (l0 : List (S24)) (A1 : Option Addr) (c1 : Nat) (l1 : List (S24)) (r : List Int) (w : World) (hr0 : Kd.C k24 w A0 l0.length l0) (hc0 : l0.length ≤ c0) (hr1 : Kd.C k24 w A1 l1.length l1) (hc1 : l1.length ≤ c1) (h : r11_bounds.f k l0 l1 = some r) :
  Calls Try.prog 41 #[.slice A0 l0.length c0, .slice A1 l1.length c1] w fun e w' => ∃ v0_ : Value, e = .returned (v0_) ∧ Kd.R (Kd.int .i64) 3 w' w.heap.size (fun _ => True) v0_ r ∧ Below w.heap.size w w' := by
 have HR0 := Aside0.mk hr0
 have HC0 := Aside0.mk hc0
 clear hr0 hc0
 have HR1 := Aside0.mk hr1
 have HC1 := Aside0.mk hc1
 clear hr1 hc1
 have HB := Aside0.mk (Below.refl w.heap.size w)
 have H : ((some (([] : List (S24)) : List (S24))).bind fun y207 => (if y207.length + l0.length < 8796093022208 then ((some (y207 ++ l0 : List (S24))).bind fun y210 => (if y210.length + l1.length < 8796093022208 then (r11_bounds.l0 k (y210 ++ l1) (([] : List Int)) 0) else (none))) else (none))) = some r := h
 clear h
 obtain ⟨y207, hy207⟩ : ∃ y_ : List (S24), y_ = (([] : List (S24))) := ⟨_, rfl⟩
 replace H : (if y207.length + l0.length < 8796093022208 then ((some (y207 ++ l0 : List (S24))).bind fun y210 => (if y210.length + l1.length < 8796093022208 then (r11_bounds.l0 k (y210 ++ l1) (([] : List Int)) 0) else (none))) else (none)) = some r := by first | (rw [hy207]; with_reducible exact H) | (have H2_ := (Option.bind_some _ _).symm.trans H; rw [hy207]; with_reducible exact H2_) | (have H2_ := (Option.bind_some _ _).symm.trans H; with_reducible exact H2_) | with_reducible exact H | (rw [hy207]; exact H) | exact H
 have Ny207 := Aside0.mk hy207
 clear hy207
 by_cases c3 : y207.length + l0.length < 8796093022208
 ·rw [if_pos c3] at H
  have LMc3 := Aside0.mk c3
  clear c3
  obtain ⟨y210, hy210⟩ : ∃ y_ : List (S24), y_ = (y207 ++ l0) := ⟨_, rfl⟩
  replace H : (if y210.length + l1.length < 8796093022208 then (r11_bounds.l0 k (y210 ++ l1) (([] : List Int)) 0) else (none)) = some r := by first | (rw [hy210]; with_reducible exact H) | (have H2_ := (Option.bind_some _ _).symm.trans H; rw [hy210]; with_reducible exact H2_) | (have H2_ := (Option.bind_some _ _).symm.trans H; with_reducible exact H2_) | with_reducible exact H | (rw [hy210]; exact H) | exact H
  have Ny210 := Aside0.mk hy210
  clear hy210
  by_cases c4 : y210.length + l1.length < 8796093022208
  ·rw [if_pos c4] at H
   have LMc4 := Aside0.mk c4
   clear c4
   obtain ⟨y213, hy213⟩ : ∃ y_ : List (S24), y_ = (y210 ++ l1) := ⟨_, rfl⟩
   replace H : (r11_bounds.l0 k y213 (([] : List Int)) 0) = some r := by first | (rw [hy213]; with_reducible exact H) | (have H2_ := (Option.bind_some _ _).symm.trans H; rw [hy213]; with_reducible exact H2_) | (have H2_ := (Option.bind_some _ _).symm.trans H; with_reducible exact H2_) | with_reducible exact H | (rw [hy213]; exact H) | exact H
   have Ny213 := Aside0.mk hy213
   clear hy213
   obtain ⟨y216, hy216⟩ : ∃ y_ : List Int, y_ = (([] : List Int)) := ⟨_, rfl⟩
   replace H : (r11_bounds.l0 k y213 y216 0) = some r := by first | (rw [hy216]; with_reducible exact H) | (have H2_ := (Option.bind_some _ _).symm.trans H; rw [hy216]; with_reducible exact H2_) | (have H2_ := (Option.bind_some _ _).symm.trans H; with_reducible exact H2_) | with_reducible exact H | (rw [hy216]; exact H) | exact H
   have Ny216 := Aside0.mk hy216
   clear hy216
   have H' := Aside0.mk H
   clear H
   go_enter Try.func41, Try.ntmps41
   go_wp2_with (first | ((with_reducible refine gate_dst (N := 11) rfl ?_); refine Kd.R_lit k24 _ 24 ?hg (N := 11) ?hd (xs := ([] : List (S24))) (inner := []) (ok := fun _ => True) (okp := fun _ => True) ?hr ?hp (fun _ hk => hk) trivial (Below.refl _ _) (Nat.le_refl _) (by simp) ?_; (case hd => rfl); (case hg => rfl); (case hr => first | (go_simp; done) | (go_simp; rfl)); (case hp => exact (Reps.none _ _)); intro v208 w5 ho6 hb hg_ hnew_; clear hg_ hnew_; (first | rw [← Ny207.out] at ho6 | (simp only [Int.reduceToNat] at ho6; rw [← Ny207.out] at ho6)); have n0_ := Aside0.mk (Kd.R_lower ho6 (below_size (bZ HB.out))); have n1_ := Aside0.mk (below_step (bZ HB.out) hb); clear HB; have HO209 := n0_; have HB := n1_; clear n0_ n1_; clear hb ho6) | ((with_reducible refine gate_builtin (b := .append) (xs := #[.tmp 11, .tmp 12]) rfl ?_); at_builtin; refine Kd.R_append_rows k24 (w0 := w) w.heap.size rfl (.tmp 11) (.tmp 12) 22 24 (.agg #[(.int .i64 0), (.int .i64 0)]) 16 rfl Try.underlying22 info24 rfl (by decide) (by omega) v208 y207 l0 _ _ _ (fun _ => True) (fun _ => False) rfl rfl ?aO ?aR (fun _ _ h => h) (fun _ h => h.elim) ?aF ?aB ?aS ?aL ?_; (case aR => repeat (first | exact (Kd.C_below HR0.out HB.out) | (with_reducible refine Kd.C_alloc ?_ _) | (with_reducible refine Kd.C_drewN ?_ _) | (with_reducible refine Kd.C_drew ?_))); (case aB => exact (bZ HB.out)); (case aF => exact (fun _ _ => trivial)); (case aO => exact (rZ HO209.out)); (case aS => exact (below_size (bZ HB.out))); (case aL => have := LMc3.out; omega); intro v211 w7 ho hb hg hat; rw [← Ny210.out] at ho; have n0_ := Aside0.mk (hb); have n1_ := Aside0.mk (ho); clear HB; clear HO209; have HB := n0_; have HO212 := n1_; clear n0_ n1_; clear ho hb hg hat) | ((with_reducible refine gate_builtin (b := .append) (xs := #[.tmp 13, .tmp 14]) rfl ?_); at_builtin; refine Kd.R_append_rows k24 (w0 := w) w.heap.size rfl (.tmp 13) (.tmp 14) 22 24 (.agg #[(.int .i64 0), (.int .i64 0)]) 16 rfl Try.underlying22 info24 rfl (by decide) (by omega) v211 y210 l1 _ _ _ (fun _ => True) (fun _ => False) rfl rfl ?aO ?aR (fun _ _ h => h) (fun _ h => h.elim) ?aF ?aB ?aS ?aL ?_; (case aR => repeat (first | exact (Kd.C_below HR1.out HB.out) | (with_reducible refine Kd.C_alloc ?_ _) | (with_reducible refine Kd.C_drewN ?_ _) | (with_reducible refine Kd.C_drew ?_))); (case aB => exact (bZ HB.out)); (case aF => exact (fun _ _ => trivial)); (case aO => exact (rZ HO212.out)); (case aS => exact (below_size (bZ HB.out))); (case aL => have := LMc4.out; omega); intro v214 w8 ho hb hg hat; rw [← Ny213.out] at ho; have n0_ := Aside0.mk (hb); have n1_ := Aside0.mk (ho); clear HB; clear HO212; have HB := n0_; have HO215 := n1_; clear n0_ n1_; clear ho hb hg hat) | ((with_reducible refine gate_dst (N := 16) rfl ?_); refine Kd.R_lit (Kd.int .i64) _ 3 ?hg (N := 16) ?hd (xs := ([] : List Int)) (inner := []) (ok := fun _ => True) (okp := fun _ => True) ?hr ?hp (fun _ hk => hk) trivial (Below.refl _ _) (Nat.le_refl _) (by simp) ?_; (case hd => rfl); (case hg => rfl); (case hr => first | (go_simp; done) | (go_simp; rfl)); (case hp => exact (Reps.none _ _)); intro v217 w9 ho10 hb hg_ hnew_; clear hg_ hnew_; (first | rw [← Ny216.out] at ho10 | (simp only [Int.reduceToNat] at ho10; rw [← Ny216.out] at ho10)); have n0_ := Aside0.mk (Kd.R_below (rZ HO215.out) hb); have n1_ := Aside0.mk (Kd.R_lower ho10 (below_size (bZ HB.out))); have n2_ := Aside0.mk (below_step (bZ HB.out) hb); clear HO215; clear HB; have HO215 := n0_; have HO218 := n1_; have HB := n2_; clear n0_ n1_ n2_; clear hb ho10))
   go_loopg [6, 7] k (fun kq v6 v7 w' => ∃ (x6_1 : List Int) (x7_1 : Int), v7 = .int .i64 x7_1 ∧ Aside0 (r11_bounds.l0 kq y213 x6_1 x7_1 = some r) ∧ Aside0 (kq ≤ k) ∧ Aside0 (Kd.R k24 24 w' w.heap.size (fun _ => True) v214 y213) ∧ Aside0 (Kd.R (Kd.int .i64) 3 w' w.heap.size (fun _ => True) v6 x6_1) ∧ Aside0 (Below w.heap.size w w'))
   case atStart => exact ⟨(y216), (0), (by first | rfl | (simp; done) | (simp [*]; done)), H', ⟨Nat.le_refl _⟩, ⟨by (with_reducible repeat (first | apply Kd.R_alloc | apply Kd.R_drewN | apply Kd.R_drew)); exact HO215.out⟩, ⟨by (with_reducible repeat (first | apply Kd.R_alloc | apply Kd.R_drewN | apply Kd.R_drew)); exact HO218.out⟩, ⟨by repeat (first | (with_reducible first | exact HB.out | apply below_alloc | apply pw_below_drewN | apply below_drew1) | exact HB.out)⟩⟩
   case round =>
    clear H'
    try clear c1
    try clear p2
    try clear c3
    try clear c4
    obtain ⟨x6_1, x7_1, rfl, HA, HK1, HO_5, HO_6, HB⟩ := hrel
    cases gk with
    | zero => exact absurd HA.out (by simp [r11_bounds.l0])
    | succ k1 =>
     have H := HA.out
     clear HA
     simp only [r11_bounds.l0] at H
     by_cases c11 : x7_1 < (wrap64 (2 * (y213.length : Int)))
     ·rw [if_pos c11] at H
      have c11b0 : decide (x7_1 < (wrap64 (2 * (y213.length : Int)))) = true := decide_eq_true c11
      clear c11
      obtain ⟨ji12, hji12⟩ : ∃ j_ : Int, (wrap64 (Int.tdiv x7_1 2)) = j_ := ⟨_, rfl⟩
      replace H : (if 0 ≤ (ji12) then (if (ji12) < (y213.length : Int) then (if (Int.tmod x7_1 2) = 1 then (r11_bounds.j1 k1 y213 x6_1 x7_1 ((rd_T24 y213 (ji12)).f1)) else (r11_bounds.j1 k1 y213 x6_1 x7_1 ((rd_T24 y213 (ji12)).f0))) else (none)) else (none)) = some r := by first | (rw [hji12] at H; exact H) | (simp only [hji12] at H ⊢; exact H)
      have hji12w : (IntKind.i64.wrap (Int.tdiv x7_1 2)) = ji12 := (i64_w _).trans hji12
      by_cases c13 : 0 ≤ (ji12)
      ·rw [if_pos c13] at H
       have c13b0 : decide (0 ≤ (ji12)) = true := decide_eq_true c13
       clear c13
       by_cases c14 : (ji12) < (y213.length : Int)
       ·rw [if_pos c14] at H
        have c14b0 : decide ((ji12) < (y213.length : Int)) = true := decide_eq_true c14
        clear c14
        have HC15 := Aside0.mk H
        clear H
        obtain ⟨Ao16, co16, eo16⟩ := Kd.R_slice HO_5.out
        subst eo16
        have p219 : 0 ≤ ((ji12) : Int) := of_decide_eq_true (by first | (with_reducible assumption) | assumption)
        have q219 : (ji12) < (y213.length : Int) := of_decide_eq_true (by first | (with_reducible assumption) | assumption)
        obtain ⟨ad219, e219, hx219_0, hx219_1⟩ := at_T24 (Kd.R_reads' HO_5.out).2.2 (ji12) p219 q219
        cases e219
        replace p219 := eq_true p219
        replace q219 := eq_true q219
        go_upto_if 32 with (fail)
        go_cut [8] (fun v8 wc => ∃ (kq : Nat) (x8_14 : Int), v8 = .int .i64 x8_14 ∧ Aside0 (r11_bounds.j1 kq y213 x6_1 x7_1 x8_14 = some r) ∧ Aside0 (kq ≤ k1) ∧ Aside0 (Kd.R k24 24 wc w.heap.size (fun _ => True) (.slice (some ad219) y213.length co16) y213) ∧ Aside0 (Kd.R (Kd.int .i64) 3 wc w.heap.size (fun _ => True) u6 x6_1) ∧ Aside0 (Below w.heap.size w wc))
        case first =>
         have H := HC15.out
         clear HC15
         by_cases c17 : (Int.tmod x7_1 2) = 1
         ·rw [if_pos c17] at H
          have c17b0 : ((Int.tmod x7_1 2) == 1) = true := beq_iff_eq.mpr c17
          have c17b1 : ((Int.tmod x7_1 2) != 1) = false := bne_eq_false_iff_eq.mpr c17
          clear c17
          (first | rw [c17b0] | (simp only [i64_w, i32_w]; rw [c17b0]) | skip)
          have H' := Aside0.mk H
          clear H
          have p220 : 0 ≤ ((ji12) : Int) := of_decide_eq_true (by first | (with_reducible assumption) | assumption)
          have q220 : (ji12) < (y213.length : Int) := of_decide_eq_true (by first | (with_reducible assumption) | assumption)
          obtain ⟨ad220, e220, hx220_0, hx220_1⟩ := at_T24 (Kd.R_reads' HO_5.out).2.2 (ji12) p220 q220
          obtain rfl : ad219 = ad220 := (by injection e220)
          replace p220 := eq_true p220
          replace q220 := eq_true q220
          go_wp2
          go_meet
          case rel => exact ⟨_, ((rd_T24 y213 (ji12)).f1), (by first | rfl | (simp; done) | (simp only [← hji12] <;> (first | rfl | simp)) | (simp [*]; done)), H', ⟨by have := HK1.out; first | omega | exact Nat.le_refl _⟩, ⟨by (with_reducible repeat (first | apply Kd.R_alloc | apply Kd.R_drewN | apply Kd.R_drew)); exact HO_5.out⟩, ⟨by (with_reducible repeat (first | apply Kd.R_alloc | apply Kd.R_drewN | apply Kd.R_drew)); exact HO_6.out⟩, ⟨by repeat (first | (with_reducible first | exact HB.out | apply below_alloc | apply pw_below_drewN | apply below_drew1) | exact HB.out)⟩⟩
         ·rw [if_neg c17] at H
          have c17b0 : ((Int.tmod x7_1 2) == 1) = false := beq_eq_false_iff_ne.mpr c17
          have c17b1 : ((Int.tmod x7_1 2) != 1) = true := bne_iff_ne.mpr c17
          (first | rw [c17b0] | (simp only [i64_w, i32_w]; rw [c17b0]) | skip)
          have H' := Aside0.mk H
          clear H
          go_wp2
          go_meet
          case rel => exact ⟨_, ((rd_T24 y213 (ji12)).f0), (by first | rfl | (simp; done) | (simp only [← hji12] <;> (first | rfl | simp)) | (simp [*]; done)), H', ⟨by have := HK1.out; first | omega | exact Nat.le_refl _⟩, ⟨by (with_reducible repeat (first | apply Kd.R_alloc | apply Kd.R_drewN | apply Kd.R_drew)); exact HO_5.out⟩, ⟨by (with_reducible repeat (first | apply Kd.R_alloc | apply Kd.R_drewN | apply Kd.R_drew)); exact HO_6.out⟩, ⟨by repeat (first | (with_reducible first | exact HB.out | apply below_alloc | apply pw_below_drewN | apply below_drew1) | exact HB.out)⟩⟩
        case rest =>
         clear HC15
         try clear c1
         try clear p2
         try clear q2
         try clear hx2
         try clear c3
         try clear c4
         try clear p6
         try clear c11
         try clear c11b0
         try clear c13
         try clear c13b0
         try clear c14
         try clear c14b0
         try clear c17
         try clear c17b0
         try clear c17b1
         try clear hx219_0
         try clear hx219_1
         try clear hx220_0
         try clear hx220_1
         try clear p2
         try clear p219
         try clear p220
         try clear q219
         try clear q220
         obtain ⟨kq, x8_14, rfl, HA, HJ14, HO_5, HO_6, HB⟩ := hcut
         cases kq with
         | zero => exact absurd HA.out (by simp [r11_bounds.j1])
         | succ kj14 =>
          have H := HA.out
          clear HA
          simp only [r11_bounds.j1] at H
          have H' := Aside0.mk H
          clear H
          go_wp2
          go_loopg [9] kj14 (fun kq v9 w' => ∃ (x9_3 : Int), v9 = .int .i64 x9_3 ∧ Aside0 (r11_bounds.l1 kq y213 x6_1 x7_1 x8_14 x9_3 = some r) ∧ Aside0 (kq ≤ kj14) ∧ Aside0 (Kd.R k24 24 w' w.heap.size (fun _ => True) (.slice (some ad219) y213.length co16) y213) ∧ Aside0 (Kd.R (Kd.int .i64) 3 w' w.heap.size (fun _ => True) u6 x6_1) ∧ Aside0 (Below w.heap.size w w'))
          case atStart => exact ⟨(0), (by first | rfl | (simp; done) | (simp [*]; done)), H', ⟨Nat.le_refl _⟩, ⟨by (with_reducible repeat (first | apply Kd.R_alloc | apply Kd.R_drewN | apply Kd.R_drew)); exact HO_5.out⟩, ⟨by (with_reducible repeat (first | apply Kd.R_alloc | apply Kd.R_drewN | apply Kd.R_drew)); exact HO_6.out⟩, ⟨by repeat (first | (with_reducible first | exact HB.out | apply below_alloc | apply pw_below_drewN | apply below_drew1) | exact HB.out)⟩⟩
          case round =>
           clear H'
           try clear c1
           try clear p2
           try clear q2
           try clear hx2
           try clear c3
           try clear c4
           try clear p6
           try clear c11
           try clear c11b0
           try clear c13
           try clear c13b0
           try clear c14
           try clear c14b0
           try clear c17
           try clear c17b0
           try clear c17b1
           try clear hx219_0
           try clear hx219_1
           try clear hx220_0
           try clear hx220_1
           try clear p2
           try clear p219
           try clear p220
           try clear p6
           try clear q2
           try clear q219
           try clear q220
           obtain ⟨x9_3, rfl, HA, HK3, HO_5, HO_6, HB⟩ := hrel
           cases gk with
           | zero => exact absurd HA.out (by simp [r11_bounds.l1])
           | succ k3 =>
            have H := HA.out
            clear HA
            simp only [r11_bounds.l1] at H
            by_cases c18 : x9_3 < (x6_1.length : Int)
            ·rw [if_pos c18] at H
             have c18b0 : decide (x9_3 < (x6_1.length : Int)) = true := decide_eq_true c18
             clear c18
             by_cases c19 : 0 ≤ x9_3
             ·rw [if_pos c19] at H
              have c19b0 : decide (0 ≤ x9_3) = true := decide_eq_true c19
              clear c19
              by_cases c20 : (rd x6_1 x9_3) < x8_14
              ·rw [if_pos c20] at H
               have c20b0 : decide ((rd x6_1 x9_3) < x8_14) = true := decide_eq_true c20
               clear c20
               have H' := Aside0.mk H
               clear H
               obtain ⟨Ao21, co21, eo21⟩ := Kd.R_slice HO_6.out
               subst eo21
               have p221 : 0 ≤ (x9_3 : Int) := of_decide_eq_true (by first | (with_reducible assumption) | assumption)
               have q221 : x9_3 < (x6_1.length : Int) := of_decide_eq_true (by first | (with_reducible assumption) | assumption)
               obtain ⟨ad221, e221, hx221_0⟩ := Kd.at_int (Kd.R_reads' HO_6.out).2.2 x9_3 p221 q221
               cases e221
               replace p221 := eq_true p221
               replace q221 := eq_true q221
               go_wp2
               go_roundg k3
               case measure => have := HK1.out; have := HJ14.out; have := HK3.out; omega
               case rel => exact ⟨(wrap64 (x9_3 + 1)), (by first | rfl | (simp; done) | (simp [*]; done)), H', ⟨by have := HK1.out; have := HJ14.out; have := HK3.out; omega⟩, ⟨by (with_reducible repeat (first | apply Kd.R_alloc | apply Kd.R_drewN | apply Kd.R_drew)); exact HO_5.out⟩, ⟨by (with_reducible repeat (first | apply Kd.R_alloc | apply Kd.R_drewN | apply Kd.R_drew)); exact HO_6.out⟩, ⟨by repeat (first | (with_reducible first | exact HB.out | apply below_alloc | apply pw_below_drewN | apply below_drew1) | exact HB.out)⟩⟩
              ·rw [if_neg c20] at H
               have c20b0 : decide ((rd x6_1 x9_3) < x8_14) = false := decide_eq_false c20
               clear c20
               by_cases c22 : (rd x6_1 x9_3) = x8_14
               ·rw [if_pos c22] at H
                have c22b0 : ((rd x6_1 x9_3) == x8_14) = true := beq_iff_eq.mpr c22
                have c22b1 : ((rd x6_1 x9_3) != x8_14) = false := bne_eq_false_iff_eq.mpr c22
                clear c22
                have H' := Aside0.mk H
                clear H
                obtain ⟨Ao23, co23, eo23⟩ := Kd.R_slice HO_6.out
                subst eo23
                have p221 : 0 ≤ (x9_3 : Int) := of_decide_eq_true (by first | (with_reducible assumption) | assumption)
                have q221 : x9_3 < (x6_1.length : Int) := of_decide_eq_true (by first | (with_reducible assumption) | assumption)
                obtain ⟨ad221, e221, hx221_0⟩ := Kd.at_int (Kd.R_reads' HO_6.out).2.2 x9_3 p221 q221
                cases e221
                replace p221 := eq_true p221
                replace q221 := eq_true q221
                have p222 : 0 ≤ (x9_3 : Int) := of_decide_eq_true (by first | (with_reducible assumption) | assumption)
                have q222 : x9_3 < (x6_1.length : Int) := of_decide_eq_true (by first | (with_reducible assumption) | assumption)
                obtain ⟨ad222, e222, hx222_0⟩ := Kd.at_int (Kd.R_reads' HO_6.out).2.2 x9_3 p222 q222
                obtain rfl : ad221 = ad222 := (by injection e222)
                replace p222 := eq_true p222
                replace q222 := eq_true q222
                go_wp2
                go_roundg k3
                case measure => have := HK1.out; have := HJ14.out; have := HK3.out; omega
                case rel => exact ⟨(x6_1), (wrap64 (x7_1 + 1)), (by first | rfl | (simp; done) | (simp [*]; done)), H', ⟨by have := HK1.out; have := HJ14.out; have := HK3.out; omega⟩, ⟨by (with_reducible repeat (first | apply Kd.R_alloc | apply Kd.R_drewN | apply Kd.R_drew)); exact HO_5.out⟩, ⟨by (with_reducible repeat (first | apply Kd.R_alloc | apply Kd.R_drewN | apply Kd.R_drew)); exact HO_6.out⟩, ⟨by repeat (first | (with_reducible first | exact HB.out | apply below_alloc | apply pw_below_drewN | apply below_drew1) | exact HB.out)⟩⟩
               ·rw [if_neg c22] at H
                have c22b0 : ((rd x6_1 x9_3) == x8_14) = false := beq_eq_false_iff_ne.mpr c22
                have c22b1 : ((rd x6_1 x9_3) != x8_14) = true := bne_iff_ne.mpr c22
                obtain ⟨y223, hy223⟩ : ∃ y_ : List Int, y_ = (([] : List Int)) := ⟨_, rfl⟩
                replace H : (if x9_3 ≤ (x6_1.length : Int) then ((some (x6_1.take (x9_3 : Int).toNat : List Int)).bind fun y226 => (if y223.length + y226.length < 17592186044416 then ((some (y223 ++ y226 : List Int)).bind fun y230 => (if y230.length < 17592186044416 then ((some (y230 ++ [x8_14] : List Int)).bind fun y233 => ((some (x6_1.drop (x9_3 : Int).toNat : List Int)).bind fun y236 => (if y233.length + y236.length < 17592186044416 then (r11_bounds.l0 k3 y213 (y233 ++ y236) (wrap64 (x7_1 + 1))) else (none)))) else (none))) else (none))) else (none)) = some r := by first | (rw [hy223]; with_reducible exact H) | (have H2_ := (Option.bind_some _ _).symm.trans H; rw [hy223]; with_reducible exact H2_) | (have H2_ := (Option.bind_some _ _).symm.trans H; with_reducible exact H2_) | with_reducible exact H | (rw [hy223]; exact H) | exact H
                have Ny223 := Aside0.mk hy223
                clear hy223
                have c24b0 := eq_true (of_decide_eq_true (by first | (with_reducible assumption) | assumption) : 0 ≤ x9_3)
                by_cases c25 : x9_3 ≤ (x6_1.length : Int)
                ·rw [if_pos c25] at H
                 have c25b0 := eq_true c25
                 have c25b1 : decide (x9_3 ≤ (x6_1.length : Int)) = true := decide_eq_true c25
                 clear c25
                 obtain ⟨y226, hy226⟩ : ∃ y_ : List Int, y_ = (x6_1.take (x9_3 : Int).toNat) := ⟨_, rfl⟩
                 replace H : (if y223.length + y226.length < 17592186044416 then ((some (y223 ++ y226 : List Int)).bind fun y230 => (if y230.length < 17592186044416 then ((some (y230 ++ [x8_14] : List Int)).bind fun y233 => ((some (x6_1.drop (x9_3 : Int).toNat : List Int)).bind fun y236 => (if y233.length + y236.length < 17592186044416 then (r11_bounds.l0 k3 y213 (y233 ++ y236) (wrap64 (x7_1 + 1))) else (none)))) else (none))) else (none)) = some r := by first | (rw [hy226]; with_reducible exact H) | (have H2_ := (Option.bind_some _ _).symm.trans H; rw [hy226]; with_reducible exact H2_) | (have H2_ := (Option.bind_some _ _).symm.trans H; with_reducible exact H2_) | with_reducible exact H | (rw [hy226]; exact H) | exact H
                 have Ny226 := Aside0.mk hy226
                 clear hy226
                 by_cases c26 : y223.length + y226.length < 17592186044416
                 ·rw [if_pos c26] at H
                  have LMc26 := Aside0.mk c26
                  clear c26
                  obtain ⟨y230, hy230⟩ : ∃ y_ : List Int, y_ = (y223 ++ y226) := ⟨_, rfl⟩
                  replace H : (if y230.length < 17592186044416 then ((some (y230 ++ [x8_14] : List Int)).bind fun y233 => ((some (x6_1.drop (x9_3 : Int).toNat : List Int)).bind fun y236 => (if y233.length + y236.length < 17592186044416 then (r11_bounds.l0 k3 y213 (y233 ++ y236) (wrap64 (x7_1 + 1))) else (none)))) else (none)) = some r := by first | (rw [hy230]; with_reducible exact H) | (have H2_ := (Option.bind_some _ _).symm.trans H; rw [hy230]; with_reducible exact H2_) | (have H2_ := (Option.bind_some _ _).symm.trans H; with_reducible exact H2_) | with_reducible exact H | (rw [hy230]; exact H) | exact H
                  have Ny230 := Aside0.mk hy230
                  clear hy230
                  by_cases c27 : y230.length < 17592186044416
                  ·rw [if_pos c27] at H
                   have LMc27 := Aside0.mk c27
                   clear c27
                   obtain ⟨y233, hy233⟩ : ∃ y_ : List Int, y_ = (y230 ++ [x8_14]) := ⟨_, rfl⟩
                   replace H : ((some (x6_1.drop (x9_3 : Int).toNat : List Int)).bind fun y236 => (if y233.length + y236.length < 17592186044416 then (r11_bounds.l0 k3 y213 (y233 ++ y236) (wrap64 (x7_1 + 1))) else (none))) = some r := by first | (rw [hy233]; with_reducible exact H) | (have H2_ := (Option.bind_some _ _).symm.trans H; rw [hy233]; with_reducible exact H2_) | (have H2_ := (Option.bind_some _ _).symm.trans H; with_reducible exact H2_) | with_reducible exact H | (rw [hy233]; exact H) | exact H
                   have Ny233 := Aside0.mk hy233
                   clear hy233
                   have c28b0 := eq_true (of_decide_eq_true (by first | (with_reducible assumption) | assumption) : 0 ≤ x9_3)
                   have c29b0 := eq_true (of_decide_eq_true (by first | (with_reducible assumption) | assumption) : x9_3 ≤ (x6_1.length : Int))
                   obtain ⟨y236, hy236⟩ : ∃ y_ : List Int, y_ = (x6_1.drop (x9_3 : Int).toNat) := ⟨_, rfl⟩
                   replace H : (if y233.length + y236.length < 17592186044416 then (r11_bounds.l0 k3 y213 (y233 ++ y236) (wrap64 (x7_1 + 1))) else (none)) = some r := by first | (rw [hy236]; with_reducible exact H) | (have H2_ := (Option.bind_some _ _).symm.trans H; rw [hy236]; with_reducible exact H2_) | (have H2_ := (Option.bind_some _ _).symm.trans H; with_reducible exact H2_) | with_reducible exact H | (rw [hy236]; exact H) | exact H
                   have Ny236 := Aside0.mk hy236
                   clear hy236
                   by_cases c30 : y233.length + y236.length < 17592186044416
                   ·rw [if_pos c30] at H
                    have LMc30 := Aside0.mk c30
                    clear c30
                    obtain ⟨y240, hy240⟩ : ∃ y_ : List Int, y_ = (y233 ++ y236) := ⟨_, rfl⟩
                    replace H : (r11_bounds.l0 k3 y213 y240 (wrap64 (x7_1 + 1))) = some r := by first | (rw [hy240]; with_reducible exact H) | (have H2_ := (Option.bind_some _ _).symm.trans H; rw [hy240]; with_reducible exact H2_) | (have H2_ := (Option.bind_some _ _).symm.trans H; with_reducible exact H2_) | with_reducible exact H | (rw [hy240]; exact H) | exact H
                    have Ny240 := Aside0.mk hy240
                    clear hy240
                    have H' := Aside0.mk H
                    clear H
                    obtain ⟨Ao31, co31, eo31⟩ := Kd.R_slice HO_6.out
                    subst eo31
                    have p221 : 0 ≤ (x9_3 : Int) := of_decide_eq_true (by first | (with_reducible assumption) | assumption)
                    have q221 : x9_3 < (x6_1.length : Int) := of_decide_eq_true (by first | (with_reducible assumption) | assumption)
                    obtain ⟨ad221, e221, hx221_0⟩ := Kd.at_int (Kd.R_reads' HO_6.out).2.2 x9_3 p221 q221
                    cases e221
                    replace p221 := eq_true p221
                    replace q221 := eq_true q221
                    have p222 : 0 ≤ (x9_3 : Int) := of_decide_eq_true (by first | (with_reducible assumption) | assumption)
                    have q222 : x9_3 < (x6_1.length : Int) := of_decide_eq_true (by first | (with_reducible assumption) | assumption)
                    obtain ⟨ad222, e222, hx222_0⟩ := Kd.at_int (Kd.R_reads' HO_6.out).2.2 x9_3 p222 q222
                    obtain rfl : ad221 = ad222 := (by injection e222)
                    replace p222 := eq_true p222
                    replace q222 := eq_true q222
                    go_wp2_with (first | ((with_reducible refine gate_dst (N := 65) rfl ?_); refine Kd.R_lit (Kd.int .i64) _ 3 ?hg (N := 65) ?hd (xs := ([] : List Int)) (inner := []) (ok := fun _ => True) (okp := fun _ => True) ?hr ?hp (fun _ hk => hk) trivial (Below.refl _ _) (Nat.le_refl _) (by simp) ?_; (case hd => rfl); (case hg => rfl); (case hr => first | (go_simp; done) | (go_simp; rfl)); (case hp => exact (Reps.none _ _)); intro v224 w32 ho33 hb hg_ hnew_; clear hg_ hnew_; (first | rw [← Ny223.out] at ho33 | (simp only [Int.reduceToNat] at ho33; rw [← Ny223.out] at ho33)); have n0_ := Aside0.mk (Kd.R_below (rZ HO_5.out) hb); have n1_ := Aside0.mk (Kd.R_elder' (rZ HO_6.out) (Kd.R_base ho33) hb); have n2_ := Aside0.mk (Kd.R_lower (Kd.R_new' ho33 (Kd.R_lt (rZ HO_6.out))) (below_size (bZ HB.out))); have n3_ := Aside0.mk (below_step (bZ HB.out) hb); clear HO_5; clear HO_6; clear HB; have HO_5 := n0_; have HO_6 := n1_; have HO225 := n2_; have HB := n3_; clear n0_ n1_ n2_ n3_; clear hb ho33; have q34 : (x9_3 : Int) ≤ ((x6_1.length : Int) : Int) := of_decide_eq_true (by first | (with_reducible assumption) | assumption); obtain ⟨i034, hi034, _, hsz34, _⟩ := info_parts info3; have hroom34 : x6_1.length ≤ co31 := (Kd.R_reads' HO_6.out).2.1; have hC34 : Kd.C (Kd.int .i64) _ (some ad221) x6_1.length x6_1 := (Kd.R_reads' HO_6.out).2.2; have hcut34 := cut_to (P := Try.prog) 57 3 .i64 Try.underlying57 hi034 (some ad221) x6_1.length co31 x9_3 (of_decide_eq_true (by first | (with_reducible assumption) | assumption)) q34 hroom34; have hr34 := Kd.C_take (m := (x9_3 : Int).toNat) hC34 (by omega); have hy34 : y226.length = (x9_3 : Int).toNat := (by rw [Ny226.out, List.length_take]; omega); rw [← Ny226.out] at hr34; rw [← hy34] at hcut34; have HR229 := Aside0.mk hr34; have HC229 := Aside0.mk (show y226.length ≤ co31 from by omega); clear hr34 hC34 hroom34 hi034 hsz34; have KY34 := Aside0.mk hy34; clear hy34; have KL34 := Aside0.mk (show (x9_3 : Int).toNat ≤ x6_1.length from by omega); replace q34 := eq_true q34) | ((with_reducible refine gate_builtin (b := .append) (xs := #[.tmp 65, .tmp 68]) rfl ?_); at_builtin; refine Kd.R_append_rows (Kd.int .i64) (w0 := w) w.heap.size rfl (.tmp 65) (.tmp 68) 57 3 (.int .i64 0) 8 rfl Try.underlying57 info3 rfl (by decide) (by omega) v224 y223 y226 _ _ _ (fun k_ => some k_ ≠ (.slice (some ad221) x6_1.length co31 : Value).ownBlock) (fun _ => False) rfl rfl ?aO ?aR (fun _ _ h => h) (fun _ h => h.elim) ?aF ?aB ?aS ?aL ?_; (case aR => repeat (first | exact (by repeat (first | (with_reducible exact HR229.out) | (with_reducible refine Kd.C_alloc ?_ _) | (with_reducible refine Kd.C_drewN ?_ _) | (with_reducible refine Kd.C_drew ?_) | exact HR229.out)) | (with_reducible refine Kd.C_alloc ?_ _) | (with_reducible refine Kd.C_drewN ?_ _) | (with_reducible refine Kd.C_drew ?_))); (case aB => exact (bZ HB.out)); (case aF => exact (fun k_ hk => Kd.fresh' (Kd.R_lt (rZ HO_6.out)) k_ hk)); (case aO => exact (by (with_reducible repeat (first | apply Kd.R_alloc | apply Kd.R_drewN | apply Kd.R_drew)); exact Kd.R_mono HO225.out (fun _ hk => hk.2))); (case aS => exact (below_size (bZ HB.out))); (case aL => have := LMc26.out; omega); intro v231 w35 ho hb hg hat; rw [← Ny230.out] at ho; have n0_ := Aside0.mk (Kd.R_over' (rZ HO_5.out) (Kd.R_typed (rZ HO225.out)) (by decide) hg); have n1_ := Aside0.mk (Kd.R_after (ok := (fun _ => True)) (rZ HO_6.out) hg hat); have n2_ := Aside0.mk (hb); have n3_ := Aside0.mk ((show Kd.C (Kd.int .i64) w35 (some ad221) y226.length y226 from by rw [Ny226.out]; exact Kd.C_take (m := (x9_3 : Int).toNat) ((Kd.R_reads' (Kd.R_after (ok := (fun _ => True)) (rZ HO_6.out) hg hat)).2.2) KL34.out)); have n4_ := Aside0.mk (ho); clear HO_5; clear HO_6; clear HB; clear HR229; clear HO225; have HO_5 := n0_; have HO_6 := n1_; have HB := n2_; have HR229 := n3_; have HO232 := n4_; clear n0_ n1_ n2_ n3_ n4_; clear ho hb hg hat) | ((with_reducible refine gate_builtin (b := .append) (xs := #[.tmp 69, .tmp 71]) rfl ?_); at_builtin; refine Kd.R_append (Kd.int .i64) (w0 := w) w.heap.size rfl (.tmp 69) (.tmp 71) 57 3 (.int .i64 0) 8 rfl Try.underlying57 info3 rfl (by decide) (by omega) v231 y230 x8_14 [.int .i64 x8_14] (fun k_ => some k_ ≠ (.slice (some ad221) x6_1.length co31 : Value).ownBlock) (fun _ => False) rfl rfl ?aP (fun _ hk => hk.elim) ?aF ?aO ?aB ?aS ?aL ?_; (case aP => exact rfl); (case aB => exact (bZ HB.out)); (case aF => exact (fun k_ hk => Kd.fresh' (Kd.R_lt (rZ HO_6.out)) k_ hk)); (case aO => exact (rZ HO232.out)); (case aS => exact (below_size (bZ HB.out))); (case aL => have := LMc27.out; omega); intro v234 w36 ho hb hg hat; rw [← Ny233.out] at ho; have n0_ := Aside0.mk (Kd.R_over' (rZ HO_5.out) (Kd.R_typed (rZ HO232.out)) (by decide) hg); have n1_ := Aside0.mk (Kd.R_after (ok := (fun _ => True)) (rZ HO_6.out) hg hat); have n2_ := Aside0.mk (hb); have n3_ := Aside0.mk ((show Kd.C (Kd.int .i64) w36 (some ad221) y226.length y226 from by rw [Ny226.out]; exact Kd.C_take (m := (x9_3 : Int).toNat) ((Kd.R_reads' (Kd.R_after (ok := (fun _ => True)) (rZ HO_6.out) hg hat)).2.2) KL34.out)); have n4_ := Aside0.mk (ho); clear HO_5; clear HO_6; clear HB; clear HR229; clear HO232; have HO_5 := n0_; have HO_6 := n1_; have HB := n2_; have HR229 := n3_; have HO235 := n4_; clear n0_ n1_ n2_ n3_ n4_; clear ho hb hg hat; have q37 : (x9_3 : Int) ≤ ((x6_1.length : Int) : Int) := of_decide_eq_true (by first | (with_reducible assumption) | assumption); obtain ⟨i037, hi037, _, hsz37, _⟩ := info_parts info3; have hroom37 : x6_1.length ≤ co31 := (Kd.R_reads' HO_6.out).2.1; have hC37 : Kd.C (Kd.int .i64) _ (some ad221) x6_1.length x6_1 := (Kd.R_reads' HO_6.out).2.2; have q037 : (0 : Int) ≤ (x9_3 : Int) := of_decide_eq_true (by first | (with_reducible assumption) | assumption); have hcut37 := cut_from (P := Try.prog) 57 3 .i64 Try.underlying57 hi037 1 hsz37 (some ad221) x6_1.length co31 x9_3 q037 q37; have hr37 := Kd.C_drop (m := (x9_3 : Int).toNat) (c := co31) hC37 (by omega) hroom37; obtain ⟨A37, hA37⟩ : ∃ A1, A1 = (if co31 = (x9_3 : Int).toNat then (some ad221) else ((some ad221) : Option Addr).map (·.add ((x9_3 : Int).toNat * 1))) := ⟨_, rfl⟩; obtain ⟨c37, hc37⟩ : ∃ c1, c1 = co31 - (x9_3 : Int).toNat := ⟨_, rfl⟩; have hy37 : y236.length = x6_1.length - (x9_3 : Int).toNat := (by rw [Ny236.out, List.length_drop] <;> omega); rw [show (x6_1).drop (x9_3 : Int).toNat = y236 from Ny236.out.symm] at hr37; replace hr37 : Kd.C (Kd.int .i64) _ A37 y236.length y236 := (by rw [hA37]; exact hr37); rw [← hy37, ← hA37, ← hc37] at hcut37; have HR239 := Aside0.mk hr37; have HC239 := Aside0.mk (show y236.length ≤ c37 from by rw [hy37, hc37]; exact Nat.sub_le_sub_right hroom37 _); clear hr37 hC37 hroom37 hi037 hsz37 hc37; have KY37 := Aside0.mk hy37; have KA37 := Aside0.mk hA37; clear hy37 hA37; have KL37 := Aside0.mk (show (x9_3 : Int).toNat ≤ x6_1.length from by omega); replace q37 := eq_true q37) | ((with_reducible refine gate_builtin (b := .append) (xs := #[.tmp 73, .tmp 76]) rfl ?_); at_builtin; refine Kd.R_append_rows (Kd.int .i64) (w0 := w) w.heap.size rfl (.tmp 73) (.tmp 76) 57 3 (.int .i64 0) 8 rfl Try.underlying57 info3 rfl (by decide) (by omega) v234 y233 y236 _ _ _ (fun k_ => some k_ ≠ (.slice (some ad221) x6_1.length co31 : Value).ownBlock) (fun _ => False) rfl rfl ?aO ?aR (fun _ _ h => h) (fun _ h => h.elim) ?aF ?aB ?aS ?aL ?_; (case aR => repeat (first | exact (by repeat (first | (with_reducible exact HR239.out) | (with_reducible refine Kd.C_alloc ?_ _) | (with_reducible refine Kd.C_drewN ?_ _) | (with_reducible refine Kd.C_drew ?_) | exact HR239.out)) | (with_reducible refine Kd.C_alloc ?_ _) | (with_reducible refine Kd.C_drewN ?_ _) | (with_reducible refine Kd.C_drew ?_))); (case aB => exact (bZ HB.out)); (case aF => exact (fun k_ hk => Kd.fresh' (Kd.R_lt (rZ HO_6.out)) k_ hk)); (case aO => exact (rZ HO235.out)); (case aS => exact (below_size (bZ HB.out))); (case aL => have := LMc30.out; omega); intro v241 w38 ho hb hg hat; rw [← Ny240.out] at ho; have n0_ := Aside0.mk (Kd.R_over' (rZ HO_5.out) (Kd.R_typed (rZ HO235.out)) (by decide) hg); have n1_ := Aside0.mk (Kd.R_after (ok := (fun _ => True)) (rZ HO_6.out) hg hat); have n2_ := Aside0.mk (hb); have n3_ := Aside0.mk ((show Kd.C (Kd.int .i64) w38 (some ad221) y226.length y226 from by rw [Ny226.out]; exact Kd.C_take (m := (x9_3 : Int).toNat) ((Kd.R_reads' (Kd.R_after (ok := (fun _ => True)) (rZ HO_6.out) hg hat)).2.2) KL34.out)); have n4_ := Aside0.mk ((show Kd.C (Kd.int .i64) w38 A37 y236.length y236 from by rw [Ny236.out, KA37.out]; exact Kd.C_drop (m := (x9_3 : Int).toNat) (c := co31) ((Kd.R_reads' (Kd.R_after (ok := (fun _ => True)) (rZ HO_6.out) hg hat)).2.2) KL37.out ((Kd.R_reads' (Kd.R_after (ok := (fun _ => True)) (rZ HO_6.out) hg hat)).2.1))); have n5_ := Aside0.mk (ho); clear HO_5; clear HO_6; clear HB; clear HR229; clear HR239; clear HO235; have HO_5 := n0_; have HO_6 := n1_; have HB := n2_; have HR229 := n3_; have HR239 := n4_; have HO242 := n5_; clear n0_ n1_ n2_ n3_ n4_ n5_; clear ho hb hg hat))
                    go_roundg k3
                    case measure => have := HK1.out; have := HJ14.out; have := HK3.out; omega
                    case rel => exact ⟨(y240), (wrap64 (x7_1 + 1)), (by first | rfl | (simp; done) | (simp [*]; done)), H', ⟨by have := HK1.out; have := HJ14.out; have := HK3.out; omega⟩, ⟨by (with_reducible repeat (first | apply Kd.R_alloc | apply Kd.R_drewN | apply Kd.R_drew)); exact HO_5.out⟩, ⟨by (with_reducible repeat (first | apply Kd.R_alloc | apply Kd.R_drewN | apply Kd.R_drew)); exact Kd.R_mono HO242.out (fun _ hk => trivial)⟩, ⟨by repeat (first | (with_reducible first | exact HB.out | apply below_alloc | apply pw_below_drewN | apply below_drew1) | exact HB.out)⟩⟩
                   ·rw [if_neg c30] at H
                    exact absurd H (by simp)
                  ·rw [if_neg c27] at H
                   exact absurd H (by simp)
                 ·rw [if_neg c26] at H
                  exact absurd H (by simp)
                ·rw [if_neg c25] at H
                 exact absurd H (by simp)
             ·rw [if_neg c19] at H
              exact absurd H (by simp)
            ·rw [if_neg c18] at H
             have c18b0 : decide (x9_3 < (x6_1.length : Int)) = false := decide_eq_false c18
             clear c18
             obtain ⟨y243, hy243⟩ : ∃ y_ : List Int, y_ = (([] : List Int)) := ⟨_, rfl⟩
             replace H : (if 0 ≤ x9_3 then (if x9_3 ≤ (x6_1.length : Int) then ((some (x6_1.take (x9_3 : Int).toNat : List Int)).bind fun y246 => (if y243.length + y246.length < 17592186044416 then ((some (y243 ++ y246 : List Int)).bind fun y250 => (if y250.length < 17592186044416 then ((some (y250 ++ [x8_14] : List Int)).bind fun y253 => ((some (x6_1.drop (x9_3 : Int).toNat : List Int)).bind fun y256 => (if y253.length + y256.length < 17592186044416 then (r11_bounds.l0 k3 y213 (y253 ++ y256) (wrap64 (x7_1 + 1))) else (none)))) else (none))) else (none))) else (none)) else (none)) = some r := by first | (rw [hy243]; with_reducible exact H) | (have H2_ := (Option.bind_some _ _).symm.trans H; rw [hy243]; with_reducible exact H2_) | (have H2_ := (Option.bind_some _ _).symm.trans H; with_reducible exact H2_) | with_reducible exact H | (rw [hy243]; exact H) | exact H
             have Ny243 := Aside0.mk hy243
             clear hy243
             by_cases c39 : 0 ≤ x9_3
             ·rw [if_pos c39] at H
              have c39b0 := eq_true c39
              have c39b1 : decide (0 ≤ x9_3) = true := decide_eq_true c39
              clear c39
              by_cases c40 : x9_3 ≤ (x6_1.length : Int)
              ·rw [if_pos c40] at H
               have c40b0 := eq_true c40
               have c40b1 : decide (x9_3 ≤ (x6_1.length : Int)) = true := decide_eq_true c40
               clear c40
               obtain ⟨y246, hy246⟩ : ∃ y_ : List Int, y_ = (x6_1.take (x9_3 : Int).toNat) := ⟨_, rfl⟩
               replace H : (if y243.length + y246.length < 17592186044416 then ((some (y243 ++ y246 : List Int)).bind fun y250 => (if y250.length < 17592186044416 then ((some (y250 ++ [x8_14] : List Int)).bind fun y253 => ((some (x6_1.drop (x9_3 : Int).toNat : List Int)).bind fun y256 => (if y253.length + y256.length < 17592186044416 then (r11_bounds.l0 k3 y213 (y253 ++ y256) (wrap64 (x7_1 + 1))) else (none)))) else (none))) else (none)) = some r := by first | (rw [hy246]; with_reducible exact H) | (have H2_ := (Option.bind_some _ _).symm.trans H; rw [hy246]; with_reducible exact H2_) | (have H2_ := (Option.bind_some _ _).symm.trans H; with_reducible exact H2_) | with_reducible exact H | (rw [hy246]; exact H) | exact H
               have Ny246 := Aside0.mk hy246
               clear hy246
               by_cases c41 : y243.length + y246.length < 17592186044416
               ·rw [if_pos c41] at H
                have LMc41 := Aside0.mk c41
                clear c41
                obtain ⟨y250, hy250⟩ : ∃ y_ : List Int, y_ = (y243 ++ y246) := ⟨_, rfl⟩
                replace H : (if y250.length < 17592186044416 then ((some (y250 ++ [x8_14] : List Int)).bind fun y253 => ((some (x6_1.drop (x9_3 : Int).toNat : List Int)).bind fun y256 => (if y253.length + y256.length < 17592186044416 then (r11_bounds.l0 k3 y213 (y253 ++ y256) (wrap64 (x7_1 + 1))) else (none)))) else (none)) = some r := by first | (rw [hy250]; with_reducible exact H) | (have H2_ := (Option.bind_some _ _).symm.trans H; rw [hy250]; with_reducible exact H2_) | (have H2_ := (Option.bind_some _ _).symm.trans H; with_reducible exact H2_) | with_reducible exact H | (rw [hy250]; exact H) | exact H
                have Ny250 := Aside0.mk hy250
                clear hy250
                by_cases c42 : y250.length < 17592186044416
                ·rw [if_pos c42] at H
                 have LMc42 := Aside0.mk c42
                 clear c42
                 obtain ⟨y253, hy253⟩ : ∃ y_ : List Int, y_ = (y250 ++ [x8_14]) := ⟨_, rfl⟩
                 replace H : ((some (x6_1.drop (x9_3 : Int).toNat : List Int)).bind fun y256 => (if y253.length + y256.length < 17592186044416 then (r11_bounds.l0 k3 y213 (y253 ++ y256) (wrap64 (x7_1 + 1))) else (none))) = some r := by first | (rw [hy253]; with_reducible exact H) | (have H2_ := (Option.bind_some _ _).symm.trans H; rw [hy253]; with_reducible exact H2_) | (have H2_ := (Option.bind_some _ _).symm.trans H; with_reducible exact H2_) | with_reducible exact H | (rw [hy253]; exact H) | exact H
                 have Ny253 := Aside0.mk hy253
                 clear hy253
                 have c43b0 := eq_true (of_decide_eq_true (by first | (with_reducible assumption) | assumption) : 0 ≤ x9_3)
                 have c44b0 := eq_true (of_decide_eq_true (by first | (with_reducible assumption) | assumption) : x9_3 ≤ (x6_1.length : Int))
                 obtain ⟨y256, hy256⟩ : ∃ y_ : List Int, y_ = (x6_1.drop (x9_3 : Int).toNat) := ⟨_, rfl⟩
                 replace H : (if y253.length + y256.length < 17592186044416 then (r11_bounds.l0 k3 y213 (y253 ++ y256) (wrap64 (x7_1 + 1))) else (none)) = some r := by first | (rw [hy256]; with_reducible exact H) | (have H2_ := (Option.bind_some _ _).symm.trans H; rw [hy256]; with_reducible exact H2_) | (have H2_ := (Option.bind_some _ _).symm.trans H; with_reducible exact H2_) | with_reducible exact H | (rw [hy256]; exact H) | exact H
                 have Ny256 := Aside0.mk hy256
                 clear hy256
                 by_cases c45 : y253.length + y256.length < 17592186044416
                 ·rw [if_pos c45] at H
                  have LMc45 := Aside0.mk c45
                  clear c45
                  obtain ⟨y260, hy260⟩ : ∃ y_ : List Int, y_ = (y253 ++ y256) := ⟨_, rfl⟩
                  replace H : (r11_bounds.l0 k3 y213 y260 (wrap64 (x7_1 + 1))) = some r := by first | (rw [hy260]; with_reducible exact H) | (have H2_ := (Option.bind_some _ _).symm.trans H; rw [hy260]; with_reducible exact H2_) | (have H2_ := (Option.bind_some _ _).symm.trans H; with_reducible exact H2_) | with_reducible exact H | (rw [hy260]; exact H) | exact H
                  have Ny260 := Aside0.mk hy260
                  clear hy260
                  have H' := Aside0.mk H
                  clear H
                  obtain ⟨Ao46, co46, eo46⟩ := Kd.R_slice HO_6.out
                  subst eo46
                  go_wp2_with (first | ((with_reducible refine gate_dst (N := 65) rfl ?_); refine Kd.R_lit (Kd.int .i64) _ 3 ?hg (N := 65) ?hd (xs := ([] : List Int)) (inner := []) (ok := fun _ => True) (okp := fun _ => True) ?hr ?hp (fun _ hk => hk) trivial (Below.refl _ _) (Nat.le_refl _) (by simp) ?_; (case hd => rfl); (case hg => rfl); (case hr => first | (go_simp; done) | (go_simp; rfl)); (case hp => exact (Reps.none _ _)); intro v244 w47 ho48 hb hg_ hnew_; clear hg_ hnew_; (first | rw [← Ny243.out] at ho48 | (simp only [Int.reduceToNat] at ho48; rw [← Ny243.out] at ho48)); have n0_ := Aside0.mk (Kd.R_below (rZ HO_5.out) hb); have n1_ := Aside0.mk (Kd.R_elder' (rZ HO_6.out) (Kd.R_base ho48) hb); have n2_ := Aside0.mk (Kd.R_lower (Kd.R_new' ho48 (Kd.R_lt (rZ HO_6.out))) (below_size (bZ HB.out))); have n3_ := Aside0.mk (below_step (bZ HB.out) hb); clear HO_5; clear HO_6; clear HB; have HO_5 := n0_; have HO_6 := n1_; have HO245 := n2_; have HB := n3_; clear n0_ n1_ n2_ n3_; clear hb ho48; have q49 : (x9_3 : Int) ≤ ((x6_1.length : Int) : Int) := of_decide_eq_true (by first | (with_reducible assumption) | assumption); obtain ⟨i049, hi049, _, hsz49, _⟩ := info_parts info3; have hroom49 : x6_1.length ≤ co46 := (Kd.R_reads' HO_6.out).2.1; have hC49 : Kd.C (Kd.int .i64) _ Ao46 x6_1.length x6_1 := (Kd.R_reads' HO_6.out).2.2; have hcut49 := cut_to (P := Try.prog) 57 3 .i64 Try.underlying57 hi049 Ao46 x6_1.length co46 x9_3 (of_decide_eq_true (by first | (with_reducible assumption) | assumption)) q49 hroom49; have hr49 := Kd.C_take (m := (x9_3 : Int).toNat) hC49 (by omega); have hy49 : y246.length = (x9_3 : Int).toNat := (by rw [Ny246.out, List.length_take]; omega); rw [← Ny246.out] at hr49; rw [← hy49] at hcut49; have HR249 := Aside0.mk hr49; have HC249 := Aside0.mk (show y246.length ≤ co46 from by omega); clear hr49 hC49 hroom49 hi049 hsz49; have KY49 := Aside0.mk hy49; clear hy49; have KL49 := Aside0.mk (show (x9_3 : Int).toNat ≤ x6_1.length from by omega); replace q49 := eq_true q49) | ((with_reducible refine gate_builtin (b := .append) (xs := #[.tmp 65, .tmp 68]) rfl ?_); at_builtin; refine Kd.R_append_rows (Kd.int .i64) (w0 := w) w.heap.size rfl (.tmp 65) (.tmp 68) 57 3 (.int .i64 0) 8 rfl Try.underlying57 info3 rfl (by decide) (by omega) v244 y243 y246 _ _ _ (fun k_ => some k_ ≠ (.slice Ao46 x6_1.length co46 : Value).ownBlock) (fun _ => False) rfl rfl ?aO ?aR (fun _ _ h => h) (fun _ h => h.elim) ?aF ?aB ?aS ?aL ?_; (case aR => repeat (first | exact (by repeat (first | (with_reducible exact HR249.out) | (with_reducible refine Kd.C_alloc ?_ _) | (with_reducible refine Kd.C_drewN ?_ _) | (with_reducible refine Kd.C_drew ?_) | exact HR249.out)) | (with_reducible refine Kd.C_alloc ?_ _) | (with_reducible refine Kd.C_drewN ?_ _) | (with_reducible refine Kd.C_drew ?_))); (case aB => exact (bZ HB.out)); (case aF => exact (fun k_ hk => Kd.fresh' (Kd.R_lt (rZ HO_6.out)) k_ hk)); (case aO => exact (by (with_reducible repeat (first | apply Kd.R_alloc | apply Kd.R_drewN | apply Kd.R_drew)); exact Kd.R_mono HO245.out (fun _ hk => hk.2))); (case aS => exact (below_size (bZ HB.out))); (case aL => have := LMc41.out; omega); intro v251 w50 ho hb hg hat; rw [← Ny250.out] at ho; have n0_ := Aside0.mk (Kd.R_over' (rZ HO_5.out) (Kd.R_typed (rZ HO245.out)) (by decide) hg); have n1_ := Aside0.mk (Kd.R_after (ok := (fun _ => True)) (rZ HO_6.out) hg hat); have n2_ := Aside0.mk (hb); have n3_ := Aside0.mk ((show Kd.C (Kd.int .i64) w50 Ao46 y246.length y246 from by rw [Ny246.out]; exact Kd.C_take (m := (x9_3 : Int).toNat) ((Kd.R_reads' (Kd.R_after (ok := (fun _ => True)) (rZ HO_6.out) hg hat)).2.2) KL49.out)); have n4_ := Aside0.mk (ho); clear HO_5; clear HO_6; clear HB; clear HR249; clear HO245; have HO_5 := n0_; have HO_6 := n1_; have HB := n2_; have HR249 := n3_; have HO252 := n4_; clear n0_ n1_ n2_ n3_ n4_; clear ho hb hg hat) | ((with_reducible refine gate_builtin (b := .append) (xs := #[.tmp 69, .tmp 71]) rfl ?_); at_builtin; refine Kd.R_append (Kd.int .i64) (w0 := w) w.heap.size rfl (.tmp 69) (.tmp 71) 57 3 (.int .i64 0) 8 rfl Try.underlying57 info3 rfl (by decide) (by omega) v251 y250 x8_14 [.int .i64 x8_14] (fun k_ => some k_ ≠ (.slice Ao46 x6_1.length co46 : Value).ownBlock) (fun _ => False) rfl rfl ?aP (fun _ hk => hk.elim) ?aF ?aO ?aB ?aS ?aL ?_; (case aP => exact rfl); (case aB => exact (bZ HB.out)); (case aF => exact (fun k_ hk => Kd.fresh' (Kd.R_lt (rZ HO_6.out)) k_ hk)); (case aO => exact (rZ HO252.out)); (case aS => exact (below_size (bZ HB.out))); (case aL => have := LMc42.out; omega); intro v254 w51 ho hb hg hat; rw [← Ny253.out] at ho; have n0_ := Aside0.mk (Kd.R_over' (rZ HO_5.out) (Kd.R_typed (rZ HO252.out)) (by decide) hg); have n1_ := Aside0.mk (Kd.R_after (ok := (fun _ => True)) (rZ HO_6.out) hg hat); have n2_ := Aside0.mk (hb); have n3_ := Aside0.mk ((show Kd.C (Kd.int .i64) w51 Ao46 y246.length y246 from by rw [Ny246.out]; exact Kd.C_take (m := (x9_3 : Int).toNat) ((Kd.R_reads' (Kd.R_after (ok := (fun _ => True)) (rZ HO_6.out) hg hat)).2.2) KL49.out)); have n4_ := Aside0.mk (ho); clear HO_5; clear HO_6; clear HB; clear HR249; clear HO252; have HO_5 := n0_; have HO_6 := n1_; have HB := n2_; have HR249 := n3_; have HO255 := n4_; clear n0_ n1_ n2_ n3_ n4_; clear ho hb hg hat; have q52 : (x9_3 : Int) ≤ ((x6_1.length : Int) : Int) := of_decide_eq_true (by first | (with_reducible assumption) | assumption); obtain ⟨i052, hi052, _, hsz52, _⟩ := info_parts info3; have hroom52 : x6_1.length ≤ co46 := (Kd.R_reads' HO_6.out).2.1; have hC52 : Kd.C (Kd.int .i64) _ Ao46 x6_1.length x6_1 := (Kd.R_reads' HO_6.out).2.2; have q052 : (0 : Int) ≤ (x9_3 : Int) := of_decide_eq_true (by first | (with_reducible assumption) | assumption); have hcut52 := cut_from (P := Try.prog) 57 3 .i64 Try.underlying57 hi052 1 hsz52 Ao46 x6_1.length co46 x9_3 q052 q52; have hr52 := Kd.C_drop (m := (x9_3 : Int).toNat) (c := co46) hC52 (by omega) hroom52; obtain ⟨A52, hA52⟩ : ∃ A1, A1 = (if co46 = (x9_3 : Int).toNat then Ao46 else (Ao46 : Option Addr).map (·.add ((x9_3 : Int).toNat * 1))) := ⟨_, rfl⟩; obtain ⟨c52, hc52⟩ : ∃ c1, c1 = co46 - (x9_3 : Int).toNat := ⟨_, rfl⟩; have hy52 : y256.length = x6_1.length - (x9_3 : Int).toNat := (by rw [Ny256.out, List.length_drop] <;> omega); rw [show (x6_1).drop (x9_3 : Int).toNat = y256 from Ny256.out.symm] at hr52; replace hr52 : Kd.C (Kd.int .i64) _ A52 y256.length y256 := (by rw [hA52]; exact hr52); rw [← hy52, ← hA52, ← hc52] at hcut52; have HR259 := Aside0.mk hr52; have HC259 := Aside0.mk (show y256.length ≤ c52 from by rw [hy52, hc52]; exact Nat.sub_le_sub_right hroom52 _); clear hr52 hC52 hroom52 hi052 hsz52 hc52; have KY52 := Aside0.mk hy52; have KA52 := Aside0.mk hA52; clear hy52 hA52; have KL52 := Aside0.mk (show (x9_3 : Int).toNat ≤ x6_1.length from by omega); replace q52 := eq_true q52) | ((with_reducible refine gate_builtin (b := .append) (xs := #[.tmp 73, .tmp 76]) rfl ?_); at_builtin; refine Kd.R_append_rows (Kd.int .i64) (w0 := w) w.heap.size rfl (.tmp 73) (.tmp 76) 57 3 (.int .i64 0) 8 rfl Try.underlying57 info3 rfl (by decide) (by omega) v254 y253 y256 _ _ _ (fun k_ => some k_ ≠ (.slice Ao46 x6_1.length co46 : Value).ownBlock) (fun _ => False) rfl rfl ?aO ?aR (fun _ _ h => h) (fun _ h => h.elim) ?aF ?aB ?aS ?aL ?_; (case aR => repeat (first | exact (by repeat (first | (with_reducible exact HR259.out) | (with_reducible refine Kd.C_alloc ?_ _) | (with_reducible refine Kd.C_drewN ?_ _) | (with_reducible refine Kd.C_drew ?_) | exact HR259.out)) | (with_reducible refine Kd.C_alloc ?_ _) | (with_reducible refine Kd.C_drewN ?_ _) | (with_reducible refine Kd.C_drew ?_))); (case aB => exact (bZ HB.out)); (case aF => exact (fun k_ hk => Kd.fresh' (Kd.R_lt (rZ HO_6.out)) k_ hk)); (case aO => exact (rZ HO255.out)); (case aS => exact (below_size (bZ HB.out))); (case aL => have := LMc45.out; omega); intro v261 w53 ho hb hg hat; rw [← Ny260.out] at ho; have n0_ := Aside0.mk (Kd.R_over' (rZ HO_5.out) (Kd.R_typed (rZ HO255.out)) (by decide) hg); have n1_ := Aside0.mk (Kd.R_after (ok := (fun _ => True)) (rZ HO_6.out) hg hat); have n2_ := Aside0.mk (hb); have n3_ := Aside0.mk ((show Kd.C (Kd.int .i64) w53 Ao46 y246.length y246 from by rw [Ny246.out]; exact Kd.C_take (m := (x9_3 : Int).toNat) ((Kd.R_reads' (Kd.R_after (ok := (fun _ => True)) (rZ HO_6.out) hg hat)).2.2) KL49.out)); have n4_ := Aside0.mk ((show Kd.C (Kd.int .i64) w53 A52 y256.length y256 from by rw [Ny256.out, KA52.out]; exact Kd.C_drop (m := (x9_3 : Int).toNat) (c := co46) ((Kd.R_reads' (Kd.R_after (ok := (fun _ => True)) (rZ HO_6.out) hg hat)).2.2) KL52.out ((Kd.R_reads' (Kd.R_after (ok := (fun _ => True)) (rZ HO_6.out) hg hat)).2.1))); have n5_ := Aside0.mk (ho); clear HO_5; clear HO_6; clear HB; clear HR249; clear HR259; clear HO255; have HO_5 := n0_; have HO_6 := n1_; have HB := n2_; have HR249 := n3_; have HR259 := n4_; have HO262 := n5_; clear n0_ n1_ n2_ n3_ n4_ n5_; clear ho hb hg hat))
                  go_roundg k3
                  case measure => have := HK1.out; have := HJ14.out; have := HK3.out; omega
                  case rel => exact ⟨(y260), (wrap64 (x7_1 + 1)), (by first | rfl | (simp; done) | (simp [*]; done)), H', ⟨by have := HK1.out; have := HJ14.out; have := HK3.out; omega⟩, ⟨by (with_reducible repeat (first | apply Kd.R_alloc | apply Kd.R_drewN | apply Kd.R_drew)); exact HO_5.out⟩, ⟨by (with_reducible repeat (first | apply Kd.R_alloc | apply Kd.R_drewN | apply Kd.R_drew)); exact Kd.R_mono HO262.out (fun _ hk => trivial)⟩, ⟨by repeat (first | (with_reducible first | exact HB.out | apply below_alloc | apply pw_below_drewN | apply below_drew1) | exact HB.out)⟩⟩
                 ·rw [if_neg c45] at H
                  exact absurd H (by simp)
                ·rw [if_neg c42] at H
                 exact absurd H (by simp)
               ·rw [if_neg c41] at H
                exact absurd H (by simp)
              ·rw [if_neg c40] at H
               exact absurd H (by simp)
             ·rw [if_neg c39] at H
              exact absurd H (by simp)
       ·rw [if_neg c14] at H
        exact absurd H (by simp)
      ·rw [if_neg c13] at H
       exact absurd H (by simp)
     ·rw [if_neg c11] at H
      have c11b0 : decide (x7_1 < (wrap64 (2 * (y213.length : Int)))) = false := decide_eq_false c11
      clear c11
      obtain rfl := Option.some.inj H
      obtain ⟨Ao54, co54, eo54⟩ := Kd.R_slice HO_5.out
      subst eo54
      go_wp2
      go_ret
      exact ⟨_, by first | rfl | (simp [errW_none, errW_some] <;> rfl) | (simp [*, errW_none, errW_some] <;> rfl) | (exfalso; simp_all only [aside0_iff, Option.some.injEq, reduceCtorEq]), by (with_reducible repeat (first | apply Kd.R_alloc | apply Kd.R_drewN | apply Kd.R_drew)); exact HO_6.out, by repeat (first | (with_reducible first | exact HB.out | apply below_alloc | apply pw_below_drewN | apply below_drew1) | exact HB.out)⟩
  ·rw [if_neg c4] at H
   exact absurd H (by simp)
 ·rw [if_neg c3] at H
  exact absurd H (by simp)

end Go.Proofs.Ytebggajdojdebaa.PS
