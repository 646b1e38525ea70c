/- Plain Lean functions with the answers of the Go functions that these laws reach, and proofs that the calls come to them; written by this session's program. -/
import Derived.Test.YtebggajdojdebaaPSx0
import Derived.Test.YtebggajdojdebaaPSx6
namespace Go.Proofs.Ytebggajdojdebaa.PS
open Go.RowKit Go.Proofs.YtebggajdojdebaaW.PrintWords Go.Proofs.YtebggajdojdebaaW.PrintLast Go.Proofs.YtebggajdojdebaaW.PrintMore
attribute [local go_sem] max2_int min2_int max_two min_two max_three min_three max_four min_four   -- for this text's walks alone
set_option linter.unusedVariables false
set_option linter.unusedSimpArgs false

/-! ### r11_choose: function 33 -/
mutual
def r11_choose.l0 : Nat → List (S24) → List (S24) → Int → List (S24) → List Int → Int → Option ((List (S24)))
 | 0, _, _, _, _, _, _ => none
 | k + 1, x0, x1, x2, x7, x8, x9 => if (wrap64 (x9 + 1)) < (x8.length : Int) then (if 0 ≤ x9 then (if x9 < (x8.length : Int) then ((r11_Has.f k x0 (rd x8 x9)).bind fun t270 => ((r11_Has.f k x1 (rd x8 x9)).bind fun t272 => (if x2 = 0 then (if t270 = true then (r11_choose.j1 k x0 x1 x2 x7 x8 x9 (!true)) else (if t272 = true then (r11_choose.j1 k x0 x1 x2 x7 x8 x9 (!true)) else (if x2 = 1 then (if x2 = 2 then (r11_choose.j1 k x0 x1 x2 x7 x8 x9 (!false)) else (r11_choose.j1 k x0 x1 x2 x7 x8 x9 (!false))) else (if x2 = 2 then (r11_choose.j1 k x0 x1 x2 x7 x8 x9 (!false)) else (r11_choose.j1 k x0 x1 x2 x7 x8 x9 (!false)))))) else (if x2 = 1 then (if t270 = true then (if t272 = true then (r11_choose.j1 k x0 x1 x2 x7 x8 x9 (!true)) else (if x2 = 2 then (r11_choose.j1 k x0 x1 x2 x7 x8 x9 (!(!t272))) else (r11_choose.j1 k x0 x1 x2 x7 x8 x9 (!false)))) else (if x2 = 2 then (r11_choose.j1 k x0 x1 x2 x7 x8 x9 (!false)) else (r11_choose.j1 k x0 x1 x2 x7 x8 x9 (!false)))) else (if x2 = 2 then (if t270 = true then (r11_choose.j1 k x0 x1 x2 x7 x8 x9 (!(!t272))) else (r11_choose.j1 k x0 x1 x2 x7 x8 x9 (!false))) else (r11_choose.j1 k x0 x1 x2 x7 x8 x9 (!false))))))) else (none)) else (none)) else (some x7)
def r11_choose.j1 : Nat → List (S24) → List (S24) → Int → List (S24) → List Int → Int → Bool → Option ((List (S24)))
 | 0, _, _, _, _, _, _, _ => none
 | k + 1, x0, x1, x2, x7, x8, x9, x65 => if x65 = true then (r11_choose.l0 k x0 x1 x2 x7 x8 (wrap64 (x9 + 1))) else (if (wrap64 ((x7.length : Int) - 1)) ≥ 0 then (if 0 ≤ (wrap64 ((x7.length : Int) - 1)) then (if (wrap64 ((x7.length : Int) - 1)) < (x7.length : Int) then (if 0 ≤ x9 then (if x9 < (x8.length : Int) then (if ((rd_T24 x7 (wrap64 ((x7.length : Int) - 1))).f1) = (rd x8 x9) then (if 0 ≤ (wrap64 (x9 + 1)) then (if (wrap64 (x9 + 1)) < (x8.length : Int) then (r11_choose.l0 k x0 x1 x2 (x7.set ((wrap64 ((x7.length : Int) - 1)) : Int).toNat (⟨(rd_T24 x7 (wrap64 ((x7.length : Int) - 1))).f0, rd x8 (wrap64 (x9 + 1))⟩ : S24)) x8 (wrap64 (x9 + 1))) else (none)) else (none)) else (if 0 ≤ (wrap64 (x9 + 1)) then (if (wrap64 (x9 + 1)) < (x8.length : Int) then (if x7.length < 8796093022208 then (r11_choose.l0 k x0 x1 x2 (x7 ++ [(⟨rd x8 x9, rd x8 (wrap64 (x9 + 1))⟩ : S24)]) x8 (wrap64 (x9 + 1))) else (none)) else (none)) else (none))) else (none)) else (none)) else (none)) else (none)) else (if 0 ≤ x9 then (if x9 < (x8.length : Int) then (if 0 ≤ (wrap64 (x9 + 1)) then (if (wrap64 (x9 + 1)) < (x8.length : Int) then (if x7.length < 8796093022208 then (r11_choose.l0 k x0 x1 x2 (x7 ++ [(⟨rd x8 x9, rd x8 (wrap64 (x9 + 1))⟩ : S24)]) x8 (wrap64 (x9 + 1))) else (none)) else (none)) else (none)) else (none)) else (none)))
end
def r11_choose.f (k : Nat) (l0 : List (S24)) (l1 : List (S24)) (a2 : Int) : Option ((List (S24))) := (r11_bounds.f k l0 l1).bind fun t266 => (r11_choose.l0 k l0 l1 a2 (([] : List (S24))) t266 0)
theorem r11_choose.mono_l : ∀ k, (∀ y0 y1 y2 y3 y4 y5, LeO (r11_choose.l0 k y0 y1 y2 y3 y4 y5) (r11_choose.l0 (k + 1) y0 y1 y2 y3 y4 y5)) ∧ (∀ y0 y1 y2 y3 y4 y5 y6, LeO (r11_choose.j1 k y0 y1 y2 y3 y4 y5 y6) (r11_choose.j1 (k + 1) y0 y1 y2 y3 y4 y5 y6))
 | 0 => ⟨fun _ _ _ _ _ _ r h => by simp [r11_choose.l0] at h, fun _ _ _ _ _ _ _ r h => by simp [r11_choose.j1] at h⟩
 | k + 1 => by
  obtain ⟨ih0, ih1⟩ := r11_choose.mono_l k
  refine ⟨?_, ?_⟩
  ·intro y0 y1 y2 y3 y4 y5
   unfold r11_choose.l0
   repeat' first
   | (with_reducible exact ih0 _ _ _ _ _ _)
   | (with_reducible exact ih1 _ _ _ _ _ _ _)
   | (with_reducible exact r11_Has.mono _ _ _)
   | (with_reducible exact r11_bounds.mono _ _ _)
   | (with_reducible exact LeO.refl _)
   | (with_reducible exact LeO.none _)
   | (with_reducible refine LeO.ite ?_ ?_)
   | (with_reducible refine LeO.bind ?_ (fun _ => ?_))
   | exact ih0 _ _ _ _ _ _
   | exact ih1 _ _ _ _ _ _ _
   | exact r11_Has.mono _ _ _
   | exact r11_bounds.mono _ _ _
   | exact LeO.none _
   | refine LeO.ite ?_ ?_
   | refine LeO.bind ?_ (fun _ => ?_)
  ·intro y0 y1 y2 y3 y4 y5 y6
   unfold r11_choose.j1
   repeat' first
   | (with_reducible exact ih0 _ _ _ _ _ _)
   | (with_reducible exact ih1 _ _ _ _ _ _ _)
   | (with_reducible exact r11_Has.mono _ _ _)
   | (with_reducible exact r11_bounds.mono _ _ _)
   | (with_reducible exact LeO.refl _)
   | (with_reducible exact LeO.none _)
   | (with_reducible refine LeO.ite ?_ ?_)
   | (with_reducible refine LeO.bind ?_ (fun _ => ?_))
   | exact ih0 _ _ _ _ _ _
   | exact ih1 _ _ _ _ _ _ _
   | exact r11_Has.mono _ _ _
   | exact r11_bounds.mono _ _ _
   | exact LeO.none _
   | refine LeO.ite ?_ ?_
   | refine LeO.bind ?_ (fun _ => ?_)
theorem r11_choose.mono : ∀ a0 a1 a2 k, LeO (r11_choose.f k a0 a1 a2) (r11_choose.f (k + 1) a0 a1 a2) := by
 intro a0 a1 a2 k
 obtain ⟨ih0, ih1⟩ := r11_choose.mono_l k
 unfold r11_choose.f
 repeat' first
   | (with_reducible exact ih0 _ _ _ _ _ _)
   | (with_reducible exact ih1 _ _ _ _ _ _ _)
   | (with_reducible exact r11_Has.mono _ _ _)
   | (with_reducible exact r11_bounds.mono _ _ _)
   | (with_reducible exact LeO.refl _)
   | (with_reducible exact LeO.none _)
   | (with_reducible refine LeO.ite ?_ ?_)
   | (with_reducible refine LeO.bind ?_ (fun _ => ?_))
   | exact ih0 _ _ _ _ _ _
   | exact ih1 _ _ _ _ _ _ _
   | exact r11_Has.mono _ _ _
   | exact r11_bounds.mono _ _ _
   | exact LeO.none _
   | refine LeO.ite ?_ ?_
   | refine LeO.bind ?_ (fun _ => ?_)
def r11_choose.T5 : Bool × List (List Nat × List Nat) := (true, [([], []), ([], []), ([], []), ([1, 2], [1, 2]), ([3], [3]), ([0, 4], [0, 4]), ([], []), ([], []), ([], []), ([7, 8], [7, 8]), ([9], [9]), ([6, 10, 5], [6, 10]), ([5, 11, 0, 1, 2, 3, 4, 5], [5]), ([11, 12, 0, 1, 2, 3, 4, 5, 6, 7, 8, 9, 10, 11, 12], [11])])
def r11_choose.B5 : List Nat := [0, 0, 0, 6, 14, 31, 0, 0, 0, 384, 896, 2047, 4095, 8191]
theorem r11_choose.tab5 : rtab .any (opsOf Try.f33 5) = r11_choose.T5 := by kernel_rfl
theorem r11_choose.bits5 : waitsOk r11_choose.T5.2 r11_choose.B5 = true := by kernel_rfl
def r11_choose.T8 : Bool × List (List Nat × List Nat) := (true, [([], []), ([0], [0]), ([1], [1]), ([2], [2]), ([2], [2]), ([3, 4, 2], [2, 3, 4]), ([5, 2], [2, 5]), ([6, 2], [2, 6]), ([2], [2]), ([2], [2]), ([8, 9, 2], [2, 8, 9]), ([10, 2], [2, 10]), ([7, 11, 2], [2, 7, 11]), ([2, 12], [2, 12])])
def r11_choose.B8 : List Nat := [0, 1, 3, 7, 7, 31, 63, 127, 7, 7, 775, 1799, 4095, 8191]
theorem r11_choose.tab8 : rtab .any (opsOf Try.f33 8) = r11_choose.T8 := by kernel_rfl
theorem r11_choose.bits8 : waitsOk r11_choose.T8.2 r11_choose.B8 = true := by kernel_rfl
def r11_choose.T10 : Bool × List (List Nat × List Nat) := (true, [([], []), ([], []), ([], []), ([1, 2], [1, 2]), ([3], [3]), ([], []), ([], []), ([6], [6]), ([5, 7], [5, 7]), ([8], [8]), ([4, 9], [4, 9]), ([10], [10]), ([0, 11], [0, 11]), ([12, 12, 0, 1, 2, 3, 4, 5, 6, 7, 8, 9, 10, 11, 12], [0, 12])])
def r11_choose.B10 : List Nat := [0, 0, 0, 6, 14, 0, 0, 64, 224, 480, 1022, 2046, 4095, 8191]
theorem r11_choose.tab10 : rtab .any (opsOf Try.f33 10) = r11_choose.T10 := by kernel_rfl
theorem r11_choose.bits10 : waitsOk r11_choose.T10.2 r11_choose.B10 = true := by kernel_rfl
set_option maxHeartbeats 8000000 in
set_option maxRecDepth 100000 in
theorem r11_choose.calls (k : Nat) (A0 : Option Addr) (c0 : Nat) (l0 : List (S24)) (A1 : Option Addr) (c1 : Nat) (l1 : List (S24)) (a2 : Int) (r : List (S24)) (w : World) (hr0 : Kd.C k24 w A0 l0.length l0) (hc0 : l0.length ≤ c0) (hr1 : Kd.C k24 w A1 l1.length l1) (hc1 : l1.length ≤ c1) (h : r11_choose.f k l0 l1 a2 = some r) :
  Calls Try.prog 33 #[.slice A0 l0.length c0, .slice A1 l1.length c1, .int .i64 a2] w fun e w' => ∃ v0_ : Value, e = .returned (v0_) ∧ Kd.R k24 24 w' w.heap.size (fun _ => True) v0_ r ∧ Below w.heap.size w w' := by
 have hu24 := Try.underlying24
 have HR0 := Aside0.mk hr0
 have HC0 := Aside0.mk hc0
 clear hr0 hc0
 have HR1 := Aside0.mk hr1
 have HC1 := Aside0.mk hc1
 clear hr1 hc1
 have HB := Aside0.mk (Below.refl w.heap.size w)
 have H : ((r11_bounds.f k l0 l1).bind fun t266 => (r11_choose.l0 k l0 l1 a2 (([] : List (S24))) t266 0)) = some r := h
 clear h
 obtain ⟨y263, hy263⟩ : ∃ y_ : List (S24), y_ = (([] : List (S24))) := ⟨_, rfl⟩
 replace H : ((r11_bounds.f k l0 l1).bind fun t266 => (r11_choose.l0 k l0 l1 a2 y263 t266 0)) = some r := by first | (rw [hy263]; with_reducible exact H) | (have H2_ := (Option.bind_some _ _).symm.trans H; rw [hy263]; with_reducible exact H2_) | (have H2_ := (Option.bind_some _ _).symm.trans H; with_reducible exact H2_) | with_reducible exact H | (rw [hy263]; exact H) | exact H
 have Ny263 := Aside0.mk hy263
 clear hy263
 replace H := Option.bind_eq_some_iff.mp H
 obtain ⟨t266, A40, H⟩ := H
 replace H : (r11_choose.l0 k l0 l1 a2 y263 t266 0) = some r := H
 have A4 := Aside0.mk A40
 clear A40
 have H' := Aside0.mk H
 clear H
 go_enter Try.func33, Try.ntmps33
 go_wp2_with (first | ((with_reducible refine gate_dst (N := 13) rfl ?_); refine Kd.R_lit k24 _ 24 ?hg (N := 13) ?hd (xs := ([] : List (S24))) (inner := []) (ok := fun _ => True) (okp := fun _ => True) ?hr ?hp (fun _ hk => hk) trivial (Below.refl _ _) (Nat.le_refl _) (by simp) ?_; (case hd => rfl); (case hg => rfl); (case hr => first | (go_simp; done) | (go_simp; rfl)); (case hp => exact (Reps.none _ _)); intro v264 w5 ho6 hb hg_ hnew_; clear hg_ hnew_; (first | rw [← Ny263.out] at ho6 | (simp only [Int.reduceToNat] at ho6; rw [← Ny263.out] at ho6)); have n0_ := Aside0.mk (Kd.R_lower ho6 (below_size (bZ HB.out))); have n1_ := Aside0.mk (below_step (bZ HB.out) hb); clear HB; have HO265 := n0_; have HB := n1_; clear n0_ n1_; clear hb ho6) | ((with_reducible refine gate_callee (f := 41) rfl ?_); refine goesL_ (some 16) rfl rfl Try.func41 (by kernel_rfl) rfl #[.slice A0 l0.length c0, .slice A1 l1.length c1] rfl (by (try simp only [List.map_toArray, List.map_cons, List.map_nil]); first | done | rfl | (simp only [List.length_drop, List.length_take]; rfl)) ?_; (with_reducible refine (r11_bounds.calls k _ _ l0 _ _ l1 t266 _ ?side1 ?side2 ?side3 ?side4 A4.out).mono ?_); (case side1 => repeat (first | exact (Kd.C_below HR0.out HB.out) | (with_reducible refine Kd.C_alloc ?_ _) | (with_reducible refine Kd.C_drewN ?_ _) | (with_reducible refine Kd.C_drew ?_))); (case side2 => exact HC0.out); (case side3 => repeat (first | exact (Kd.C_below HR1.out HB.out) | (with_reducible refine Kd.C_alloc ?_ _) | (with_reducible refine Kd.C_drewN ?_ _) | (with_reducible refine Kd.C_drew ?_))); (case side4 => exact HC1.out); rintro e w7 ⟨v267, rfl, ho0, hb⟩; refine ⟨_, rfl, ?_⟩; have n0_ := Aside0.mk (Kd.R_below (rZ HO265.out) hb); have n1_ := Aside0.mk (Kd.R_lower ho0 (below_size (bZ HB.out))); have n2_ := Aside0.mk (below_step (bZ HB.out) hb); clear HO265; clear HB; have HO265 := n0_; have HO268 := n1_; have HB := n2_; clear n0_ n1_ n2_; (try clear hb); (try clear hb2); (try clear hk); (try clear hi); (try clear ho0)))
 go_loopg [7, 9] k (fun kq v7 v9 w' => ∃ (x7_1 : List (S24)) (x9_1 : Int), v9 = .int .i64 x9_1 ∧ Aside0 (r11_choose.l0 kq l0 l1 a2 x7_1 t266 x9_1 = some r) ∧ Aside0 (kq ≤ k) ∧ Aside0 (Kd.R k24 24 w' w.heap.size (fun _ => True) v7 x7_1) ∧ Aside0 (Kd.R (Kd.int .i64) 3 w' w.heap.size (fun _ => True) v267 t266) ∧ Aside0 (Below w.heap.size w w'))
 case atStart => exact ⟨(y263), (0), (by first | rfl | (simp; done) | (simp [*]; done)), H', ⟨Nat.le_refl _⟩, ⟨by (with_reducible repeat (first | apply Kd.R_alloc | apply Kd.R_drewN | apply Kd.R_drew)); exact HO265.out⟩, ⟨by (with_reducible repeat (first | apply Kd.R_alloc | apply Kd.R_drewN | apply Kd.R_drew)); exact HO268.out⟩, ⟨by repeat (first | (with_reducible first | exact HB.out | apply below_alloc | apply pw_below_drewN | apply below_drew1) | exact HB.out)⟩⟩
 case round =>
  clear H'
  try clear c1
  try clear p2
  try clear c3
  try clear c4
  obtain ⟨x7_1, x9_1, rfl, HA, HK1, HO_7, HO_8, HB⟩ := hrel
  cases gk with
  | zero => exact absurd HA.out (by simp [r11_choose.l0])
  | succ k1 =>
   have H := HA.out
   clear HA
   simp only [r11_choose.l0] at H
   by_cases c8 : (wrap64 (x9_1 + 1)) < (t266.length : Int)
   ·rw [if_pos c8] at H
    have c8b0 : decide ((wrap64 (x9_1 + 1)) < (t266.length : Int)) = true := decide_eq_true c8
    clear c8
    by_cases c9 : 0 ≤ x9_1
    ·rw [if_pos c9] at H
     have c9b0 : decide (0 ≤ x9_1) = true := decide_eq_true c9
     clear c9
     by_cases c10 : x9_1 < (t266.length : Int)
     ·rw [if_pos c10] at H
      have c10b0 : decide (x9_1 < (t266.length : Int)) = true := decide_eq_true c10
      clear c10
      replace H := Option.bind_eq_some_iff.mp H
      obtain ⟨t270, A110, H⟩ := H
      replace H : ((r11_Has.f k1 l1 (rd t266 x9_1)).bind fun t272 => (if a2 = 0 then (if t270 = true then (r11_choose.j1 k1 l0 l1 a2 x7_1 t266 x9_1 (!true)) else (if t272 = true then (r11_choose.j1 k1 l0 l1 a2 x7_1 t266 x9_1 (!true)) else (if a2 = 1 then (if a2 = 2 then (r11_choose.j1 k1 l0 l1 a2 x7_1 t266 x9_1 (!false)) else (r11_choose.j1 k1 l0 l1 a2 x7_1 t266 x9_1 (!false))) else (if a2 = 2 then (r11_choose.j1 k1 l0 l1 a2 x7_1 t266 x9_1 (!false)) else (r11_choose.j1 k1 l0 l1 a2 x7_1 t266 x9_1 (!false)))))) else (if a2 = 1 then (if t270 = true then (if t272 = true then (r11_choose.j1 k1 l0 l1 a2 x7_1 t266 x9_1 (!true)) else (if a2 = 2 then (r11_choose.j1 k1 l0 l1 a2 x7_1 t266 x9_1 (!(!t272))) else (r11_choose.j1 k1 l0 l1 a2 x7_1 t266 x9_1 (!false)))) else (if a2 = 2 then (r11_choose.j1 k1 l0 l1 a2 x7_1 t266 x9_1 (!false)) else (r11_choose.j1 k1 l0 l1 a2 x7_1 t266 x9_1 (!false)))) else (if a2 = 2 then (if t270 = true then (r11_choose.j1 k1 l0 l1 a2 x7_1 t266 x9_1 (!(!t272))) else (r11_choose.j1 k1 l0 l1 a2 x7_1 t266 x9_1 (!false))) else (r11_choose.j1 k1 l0 l1 a2 x7_1 t266 x9_1 (!false)))))) = some r := H
      have A11 := Aside0.mk A110
      clear A110
      replace H := Option.bind_eq_some_iff.mp H
      obtain ⟨t272, A120, H⟩ := H
      replace H : (if a2 = 0 then (if t270 = true then (r11_choose.j1 k1 l0 l1 a2 x7_1 t266 x9_1 (!true)) else (if t272 = true then (r11_choose.j1 k1 l0 l1 a2 x7_1 t266 x9_1 (!true)) else (if a2 = 1 then (if a2 = 2 then (r11_choose.j1 k1 l0 l1 a2 x7_1 t266 x9_1 (!false)) else (r11_choose.j1 k1 l0 l1 a2 x7_1 t266 x9_1 (!false))) else (if a2 = 2 then (r11_choose.j1 k1 l0 l1 a2 x7_1 t266 x9_1 (!false)) else (r11_choose.j1 k1 l0 l1 a2 x7_1 t266 x9_1 (!false)))))) else (if a2 = 1 then (if t270 = true then (if t272 = true then (r11_choose.j1 k1 l0 l1 a2 x7_1 t266 x9_1 (!true)) else (if a2 = 2 then (r11_choose.j1 k1 l0 l1 a2 x7_1 t266 x9_1 (!(!t272))) else (r11_choose.j1 k1 l0 l1 a2 x7_1 t266 x9_1 (!false)))) else (if a2 = 2 then (r11_choose.j1 k1 l0 l1 a2 x7_1 t266 x9_1 (!false)) else (r11_choose.j1 k1 l0 l1 a2 x7_1 t266 x9_1 (!false)))) else (if a2 = 2 then (if t270 = true then (r11_choose.j1 k1 l0 l1 a2 x7_1 t266 x9_1 (!(!t272))) else (r11_choose.j1 k1 l0 l1 a2 x7_1 t266 x9_1 (!false))) else (r11_choose.j1 k1 l0 l1 a2 x7_1 t266 x9_1 (!false))))) = some r := H
      have A12 := Aside0.mk A120
      clear A120
      have HC13 := Aside0.mk H
      clear H
      obtain ⟨Ao14, co14, eo14⟩ := Kd.R_slice HO_8.out
      subst eo14
      try go_wp2
      have n0_ := Aside0.mk (Kd.R_drew HO_7.out)
      have n1_ := Aside0.mk (Kd.R_drew HO_8.out)
      have n2_ := Aside0.mk (below_drew1 HB.out)
      clear HO_7
      clear HO_8
      clear HB
      have HO_7 := n0_
      have HO_8 := n1_
      have HB := n2_
      clear n0_ n1_ n2_
      have p269 : 0 ≤ (x9_1 : Int) := of_decide_eq_true (by first | (with_reducible assumption) | assumption)
      have q269 : x9_1 < (t266.length : Int) := of_decide_eq_true (by first | (with_reducible assumption) | assumption)
      obtain ⟨ad269, e269, hx269_0⟩ := Kd.at_int (Kd.R_reads' HO_8.out).2.2 x9_1 p269 q269
      cases e269
      replace p269 := eq_true p269
      replace q269 := eq_true q269
      have p271 : 0 ≤ (x9_1 : Int) := of_decide_eq_true (by first | (with_reducible assumption) | assumption)
      have q271 : x9_1 < (t266.length : Int) := of_decide_eq_true (by first | (with_reducible assumption) | assumption)
      obtain ⟨ad271, e271, hx271_0⟩ := Kd.at_int (Kd.R_reads' HO_8.out).2.2 x9_1 p271 q271
      obtain rfl : ad269 = ad271 := (by injection e271)
      replace p271 := eq_true p271
      replace q271 := eq_true q271
      refine start_ (n := 14) (S := fun w' => w'.cell? (ad269.add (x9_1).toNat) = some (.int .i64 (rd t266 x9_1)) ∧ w'.cell? (ad269.add (x9_1).toNat) = some (.int .i64 (rd t266 x9_1))) (ds := []) #[false, false, false, false, false, false, false, false, false, false, false, false, false, false] (by kernel_rfl) rfl rfl ⟨hx269_0, hx271_0⟩ (fun hHeld => ?_); refine with_tabW r11_choose.tab5 r11_choose.bits5 (fun HT_ HW_ => ?_)
      generalize wr.drew = w15 at HO_7 HO_8 HB hx269_0 hx271_0 hHeld ⊢
      refine pure_ (i := 0) (N := some 24) (v := ?_) (a' := ?_) #[true, false, false, false, false, false, false, false, false, false, false, false, false, false] rfl rfl (any_of HT_.out (by kernel_rfl)) (fun _ _ _ h => h) (Or.inl ⟨by rfl, ?_⟩) ?_ ?_
      rotate_left
      ·intro w'
       go_simp
       with_reducible rfl
      rotate_left
      ·simp only [Act.put, List.setIfInBounds_toArray, List.set_cons_zero, List.set_cons_succ, i64_w, i32_w]
       rfl
      refine pure_ (i := 1) (N := some 25) (v := ?_) (a' := ?_) #[true, true, false, false, false, false, false, false, false, false, false, false, false, false] rfl rfl (any_of HT_.out (by kernel_rfl)) (fun _ _ _ h => h) (Or.inl ⟨by rfl, ?_⟩) ?_ ?_
      rotate_left
      ·intro w'
       go_simp
       with_reducible rfl
      rotate_left
      ·simp only [Act.put, List.setIfInBounds_toArray, List.set_cons_zero, List.set_cons_succ, i64_w, i32_w]
       rfl
      refine pure_ (i := 2) (N := some 26) (v := ?_) (a' := ?_) #[true, true, true, false, false, false, false, false, false, false, false, false, false, false] rfl rfl (any_of HT_.out (by kernel_rfl)) (fun _ _ _ h => h) (Or.inl ⟨by rfl, ?_⟩) ?_ ?_
      rotate_left
      ·intro w'
       go_simp
       with_reducible rfl
      rotate_left
      ·simp only [Act.put, List.setIfInBounds_toArray, List.set_cons_zero, List.set_cons_succ, i64_w, i32_w]
       rfl
      refine pure_ (i := 3) (N := some 27) (v := ?_) (a' := ?_) #[true, true, true, true, false, false, false, false, false, false, false, false, false, false] rfl rfl (any_of HT_.out (by kernel_rfl)) (fun _ _ _ h => h) (Or.inl ⟨by rfl, ?_⟩) ?_ ?_
      rotate_left
      ·intro w'
       go_simp
       with_reducible rfl
      rotate_left
      ·simp only [Act.put, List.setIfInBounds_toArray, List.set_cons_zero, List.set_cons_succ, i64_w, i32_w]
       rfl
      refine pure_ (i := 6) (N := some 30) (v := ?_) (a' := ?_) #[true, true, true, true, false, false, true, false, false, false, false, false, false, false] rfl rfl (any_of HT_.out (by kernel_rfl)) (fun _ _ _ h => h) (Or.inl ⟨by rfl, ?_⟩) ?_ ?_
      rotate_left
      ·intro w'
       go_simp
       with_reducible rfl
      rotate_left
      ·simp only [Act.put, List.setIfInBounds_toArray, List.set_cons_zero, List.set_cons_succ, i64_w, i32_w]
       rfl
      refine pure_ (i := 7) (N := some 31) (v := ?_) (a' := ?_) #[true, true, true, true, false, false, true, true, false, false, false, false, false, false] rfl rfl (any_of HT_.out (by kernel_rfl)) (fun _ _ _ h => h) (Or.inl ⟨by rfl, ?_⟩) ?_ ?_
      rotate_left
      ·intro w'
       go_simp
       with_reducible rfl
      rotate_left
      ·simp only [Act.put, List.setIfInBounds_toArray, List.set_cons_zero, List.set_cons_succ, i64_w, i32_w]
       rfl
      refine pure_ (i := 8) (N := some 32) (v := ?_) (a' := ?_) #[true, true, true, true, false, false, true, true, true, false, false, false, false, false] rfl rfl (any_of HT_.out (by kernel_rfl)) (fun _ _ _ h => h) (Or.inl ⟨by rfl, ?_⟩) ?_ ?_
      rotate_left
      ·intro w'
       go_simp
       with_reducible rfl
      rotate_left
      ·simp only [Act.put, List.setIfInBounds_toArray, List.set_cons_zero, List.set_cons_succ, i64_w, i32_w]
       rfl
      refine pure_ (i := 9) (N := some 33) (v := ?_) (a' := ?_) #[true, true, true, true, false, false, true, true, true, true, false, false, false, false] rfl rfl (any_of HT_.out (by kernel_rfl)) (fun _ _ _ h => h) (Or.inl ⟨by rfl, ?_⟩) ?_ ?_
      rotate_left
      ·intro w'
       go_simp
       with_reducible rfl
      rotate_left
      ·simp only [Act.put, List.setIfInBounds_toArray, List.set_cons_zero, List.set_cons_succ, i64_w, i32_w]
       rfl
      refine take_ (i := 4) (N := some 28) (v := ?_) (a' := ?_) #[true, true, true, true, true, false, true, true, true, true, false, false, false, false] rfl rfl (take_ofW HT_.out HW_.out (by kernel_rfl)) (fun _ _ _ h => h) (Or.inl ⟨by rfl, ?_⟩) hHeld ?_ ?_
      rotate_left
      ·rintro w' ⟨s0, s1⟩
       go_simp
       with_reducible rfl
      rotate_left
      ·simp only [Act.put, List.setIfInBounds_toArray, List.set_cons_zero, List.set_cons_succ, i64_w, i32_w]
       rfl
      refine take_ (i := 10) (N := some 34) (v := ?_) (a' := ?_) #[true, true, true, true, true, false, true, true, true, true, true, false, false, false] rfl rfl (take_ofW HT_.out HW_.out (by kernel_rfl)) (fun _ _ _ h => h) (Or.inl ⟨by rfl, ?_⟩) hHeld ?_ ?_
      rotate_left
      ·rintro w' ⟨s0, s1⟩
       go_simp
       with_reducible rfl
      rotate_left
      ·simp only [Act.put, List.setIfInBounds_toArray, List.set_cons_zero, List.set_cons_succ, i64_w, i32_w]
       rfl
      refine one_ (i := 5) (N := some 29) #[true, true, true, true, true, true, true, true, true, true, true, false, false, false] rfl rfl (one_of HT_.out (by kernel_rfl)) (by decide) (fun K hK => ?_)
      refine goes_ Try.func25 (by kernel_rfl) rfl #[.slice A0 l0.length c0, .int .i64 (rd t266 x9_1)] (by rfl) rfl rfl (by (try simp only [List.map_toArray, List.map_cons, List.map_nil]); first | done | rfl | (simp only [List.length_drop, List.length_take]; rfl)) ?_
      with_reducible refine (r11_Has.calls k1 _ _ l0 (rd t266 x9_1) t270 _ ?side1 ?side2 A11.out).mono ?_
      (case side1 => repeat (first | exact (Kd.C_below HR0.out HB.out) | (with_reducible refine Kd.C_alloc ?_ _) | (with_reducible refine Kd.C_drewN ?_ _) | (with_reducible refine Kd.C_drew ?_)))
      (case side2 => exact HC0.out)
      rintro e w' ⟨rfl, ⟨nd, rfl⟩⟩
      refine ⟨_, rfl, ?_⟩
      refine hK.out _ _ ⟨hHeld.1, hHeld.2⟩ (fun hHeld => ?_)
      clear hK K
      refine norm_ (a' := ?_) ?_ ?_
      rotate_left
      ·show Act.put _ (some 29) _ = _
       simp only [Act.put, List.setIfInBounds_toArray, List.set_cons_zero, List.set_cons_succ, i64_w, i32_w]
       rfl
      refine one_ (i := 11) (N := some 35) #[true, true, true, true, true, true, true, true, true, true, true, true, false, false] rfl rfl (one_of HT_.out (by kernel_rfl)) (by decide) (fun K hK => ?_)
      refine goes_ Try.func25 (by kernel_rfl) rfl #[.slice A1 l1.length c1, .int .i64 (rd t266 x9_1)] (by rfl) rfl rfl (by (try simp only [List.map_toArray, List.map_cons, List.map_nil]); first | done | rfl | (simp only [List.length_drop, List.length_take]; rfl)) ?_
      with_reducible refine (r11_Has.calls k1 _ _ l1 (rd t266 x9_1) t272 _ ?side1 ?side2 A12.out).mono ?_
      (case side1 => repeat (first | exact (Kd.C_below HR1.out (bZ HB.out)) | (with_reducible refine Kd.C_alloc ?_ _) | (with_reducible refine Kd.C_drewN ?_ _) | (with_reducible refine Kd.C_drew ?_)))
      (case side2 => exact HC1.out)
      rintro e w' ⟨rfl, ⟨nd, rfl⟩⟩
      refine ⟨_, rfl, ?_⟩
      refine hK.out _ _ ⟨hHeld.1, hHeld.2⟩ (fun hHeld => ?_)
      clear hK K
      refine norm_ (a' := ?_) ?_ ?_
      rotate_left
      ·show Act.put _ (some 35) _ = _
       simp only [Act.put, List.setIfInBounds_toArray, List.set_cons_zero, List.set_cons_succ, i64_w, i32_w]
       rfl
      refine pure_ (i := 12) (N := some 10) (v := ?_) (a' := ?_) #[true, true, true, true, true, true, true, true, true, true, true, true, true, false] rfl rfl (any_of HT_.out (by kernel_rfl)) (fun _ _ _ h => h) (Or.inl ⟨by rfl, ?_⟩) ?_ ?_
      rotate_left
      ·intro w'
       go_simp
       with_reducible rfl
      rotate_left
      ·simp only [Act.put, List.setIfInBounds_toArray, List.set_cons_zero, List.set_cons_succ, i64_w, i32_w]
       rfl
      refine pure_ (i := 13) (N := some 11) (v := ?_) (a' := ?_) #[true, true, true, true, true, true, true, true, true, true, true, true, true, true] rfl rfl (any_of HT_.out (by kernel_rfl)) (fun _ _ _ h => h) (Or.inl ⟨by rfl, ?_⟩) ?_ ?_
      rotate_left
      ·intro w'
       go_simp
       with_reducible rfl
      rotate_left
      ·simp only [Act.put, List.setIfInBounds_toArray, List.set_cons_zero, List.set_cons_succ, i64_w, i32_w]
       rfl
      refine done_ (done_of HT_.out (by kernel_rfl)) ?_
      go_upto_region 6 with (fail)
      go_cut [65] (fun v65 wc => ∃ (kq : Nat) (x65_12 : Bool), v65 = .bool x65_12 ∧ Aside0 (r11_choose.j1 kq l0 l1 a2 x7_1 t266 x9_1 x65_12 = some r) ∧ Aside0 (kq ≤ k1) ∧ Aside0 (Kd.R k24 24 wc w.heap.size (fun _ => True) u7 x7_1) ∧ Aside0 (Kd.R (Kd.int .i64) 3 wc w.heap.size (fun _ => True) (.slice (some ad269) t266.length co14) t266) ∧ Aside0 (Below w.heap.size w wc))
      case first =>
       have H := HC13.out
       clear HC13
       by_cases c16 : a2 = 0
       ·rw [if_pos c16] at H
        have c16b0 : (a2 == 0) = true := beq_iff_eq.mpr c16
        have c16b1 : (a2 != 0) = false := bne_eq_false_iff_eq.mpr c16
        clear c16
        (first | rw [c16b0] | (simp only [i64_w, i32_w]; rw [c16b0]) | skip)
        by_cases c17 : t270 = true
        ·subst c17
         have H1 : (r11_choose.j1 k1 l0 l1 a2 x7_1 t266 x9_1 (!true)) = some r := by rw [if_pos rfl] at H; exact H
         clear H
         have H := H1
         clear H1
         have H' := Aside0.mk H
         clear H
         go_wp2
         go_meet
         case rel => exact ⟨_, (!true), (by first | rfl | (simp; done) | (simp [*]; done)), H', ⟨by have := HK1.out; first | omega | exact Nat.le_refl _⟩, ⟨by (with_reducible repeat (first | apply Kd.R_alloc | apply Kd.R_drewN | apply Kd.R_drew)); exact HO_7.out⟩, ⟨by (with_reducible repeat (first | apply Kd.R_alloc | apply Kd.R_drewN | apply Kd.R_drew)); exact HO_8.out⟩, ⟨by repeat (first | (with_reducible first | exact HB.out | apply below_alloc | apply pw_below_drewN | apply below_drew1) | exact HB.out)⟩⟩
        ·replace c17 := Bool.eq_false_iff.mpr c17
         subst c17
         have H1 : (if t272 = true then (r11_choose.j1 k1 l0 l1 a2 x7_1 t266 x9_1 (!true)) else (if a2 = 1 then (if a2 = 2 then (r11_choose.j1 k1 l0 l1 a2 x7_1 t266 x9_1 (!false)) else (r11_choose.j1 k1 l0 l1 a2 x7_1 t266 x9_1 (!false))) else (if a2 = 2 then (r11_choose.j1 k1 l0 l1 a2 x7_1 t266 x9_1 (!false)) else (r11_choose.j1 k1 l0 l1 a2 x7_1 t266 x9_1 (!false))))) = some r := by rw [if_neg (show ¬ (false = true) by decide)] at H; exact H
         clear H
         have H := H1
         clear H1
         by_cases c18 : t272 = true
         ·subst c18
          have H1 : (r11_choose.j1 k1 l0 l1 a2 x7_1 t266 x9_1 (!true)) = some r := by rw [if_pos rfl] at H; exact H
          clear H
          have H := H1
          clear H1
          have H' := Aside0.mk H
          clear H
          go_wp2
          go_meet
          case rel => exact ⟨_, (!true), (by first | rfl | (simp; done) | (simp [*]; done)), H', ⟨by have := HK1.out; first | omega | exact Nat.le_refl _⟩, ⟨by (with_reducible repeat (first | apply Kd.R_alloc | apply Kd.R_drewN | apply Kd.R_drew)); exact HO_7.out⟩, ⟨by (with_reducible repeat (first | apply Kd.R_alloc | apply Kd.R_drewN | apply Kd.R_drew)); exact HO_8.out⟩, ⟨by repeat (first | (with_reducible first | exact HB.out | apply below_alloc | apply pw_below_drewN | apply below_drew1) | exact HB.out)⟩⟩
         ·replace c18 := Bool.eq_false_iff.mpr c18
          subst c18
          have H1 : (if a2 = 1 then (if a2 = 2 then (r11_choose.j1 k1 l0 l1 a2 x7_1 t266 x9_1 (!false)) else (r11_choose.j1 k1 l0 l1 a2 x7_1 t266 x9_1 (!false))) else (if a2 = 2 then (r11_choose.j1 k1 l0 l1 a2 x7_1 t266 x9_1 (!false)) else (r11_choose.j1 k1 l0 l1 a2 x7_1 t266 x9_1 (!false)))) = some r := by rw [if_neg (show ¬ (false = true) by decide)] at H; exact H
          clear H
          have H := H1
          clear H1
          by_cases c19 : a2 = 1
          ·rw [if_pos c19] at H
           have c19b0 : (a2 == 1) = true := beq_iff_eq.mpr c19
           have c19b1 : (a2 != 1) = false := bne_eq_false_iff_eq.mpr c19
           clear c19
           by_cases c20 : a2 = 2
           ·rw [if_pos c20] at H
            have c20b0 : (a2 == 2) = true := beq_iff_eq.mpr c20
            have c20b1 : (a2 != 2) = false := bne_eq_false_iff_eq.mpr c20
            clear c20
            have H' := Aside0.mk H
            clear H
            go_wp2
            go_meet
            case rel => exact ⟨_, (!false), (by first | rfl | (simp; done) | (simp [*]; done)), H', ⟨by have := HK1.out; first | omega | exact Nat.le_refl _⟩, ⟨by (with_reducible repeat (first | apply Kd.R_alloc | apply Kd.R_drewN | apply Kd.R_drew)); exact HO_7.out⟩, ⟨by (with_reducible repeat (first | apply Kd.R_alloc | apply Kd.R_drewN | apply Kd.R_drew)); exact HO_8.out⟩, ⟨by repeat (first | (with_reducible first | exact HB.out | apply below_alloc | apply pw_below_drewN | apply below_drew1) | exact HB.out)⟩⟩
           ·rw [if_neg c20] at H
            have c20b0 : (a2 == 2) = false := beq_eq_false_iff_ne.mpr c20
            have c20b1 : (a2 != 2) = true := bne_iff_ne.mpr c20
            have H' := Aside0.mk H
            clear H
            go_wp2
            go_meet
            case rel => exact ⟨_, (!false), (by first | rfl | (simp; done) | (simp [*]; done)), H', ⟨by have := HK1.out; first | omega | exact Nat.le_refl _⟩, ⟨by (with_reducible repeat (first | apply Kd.R_alloc | apply Kd.R_drewN | apply Kd.R_drew)); exact HO_7.out⟩, ⟨by (with_reducible repeat (first | apply Kd.R_alloc | apply Kd.R_drewN | apply Kd.R_drew)); exact HO_8.out⟩, ⟨by repeat (first | (with_reducible first | exact HB.out | apply below_alloc | apply pw_below_drewN | apply below_drew1) | exact HB.out)⟩⟩
          ·rw [if_neg c19] at H
           have c19b0 : (a2 == 1) = false := beq_eq_false_iff_ne.mpr c19
           have c19b1 : (a2 != 1) = true := bne_iff_ne.mpr c19
           by_cases c21 : a2 = 2
           ·rw [if_pos c21] at H
            have c21b0 : (a2 == 2) = true := beq_iff_eq.mpr c21
            have c21b1 : (a2 != 2) = false := bne_eq_false_iff_eq.mpr c21
            clear c21
            have H' := Aside0.mk H
            clear H
            go_wp2
            go_meet
            case rel => exact ⟨_, (!false), (by first | rfl | (simp; done) | (simp [*]; done)), H', ⟨by have := HK1.out; first | omega | exact Nat.le_refl _⟩, ⟨by (with_reducible repeat (first | apply Kd.R_alloc | apply Kd.R_drewN | apply Kd.R_drew)); exact HO_7.out⟩, ⟨by (with_reducible repeat (first | apply Kd.R_alloc | apply Kd.R_drewN | apply Kd.R_drew)); exact HO_8.out⟩, ⟨by repeat (first | (with_reducible first | exact HB.out | apply below_alloc | apply pw_below_drewN | apply below_drew1) | exact HB.out)⟩⟩
           ·rw [if_neg c21] at H
            have c21b0 : (a2 == 2) = false := beq_eq_false_iff_ne.mpr c21
            have c21b1 : (a2 != 2) = true := bne_iff_ne.mpr c21
            have H' := Aside0.mk H
            clear H
            go_wp2
            go_meet
            case rel => exact ⟨_, (!false), (by first | rfl | (simp; done) | (simp [*]; done)), H', ⟨by have := HK1.out; first | omega | exact Nat.le_refl _⟩, ⟨by (with_reducible repeat (first | apply Kd.R_alloc | apply Kd.R_drewN | apply Kd.R_drew)); exact HO_7.out⟩, ⟨by (with_reducible repeat (first | apply Kd.R_alloc | apply Kd.R_drewN | apply Kd.R_drew)); exact HO_8.out⟩, ⟨by repeat (first | (with_reducible first | exact HB.out | apply below_alloc | apply pw_below_drewN | apply below_drew1) | exact HB.out)⟩⟩
       ·rw [if_neg c16] at H
        have c16b0 : (a2 == 0) = false := beq_eq_false_iff_ne.mpr c16
        have c16b1 : (a2 != 0) = true := bne_iff_ne.mpr c16
        (first | rw [c16b0] | (simp only [i64_w, i32_w]; rw [c16b0]) | skip)
        by_cases c22 : a2 = 1
        ·rw [if_pos c22] at H
         have c22b0 : (a2 == 1) = true := beq_iff_eq.mpr c22
         have c22b1 : (a2 != 1) = false := bne_eq_false_iff_eq.mpr c22
         clear c22
         by_cases c23 : t270 = true
         ·subst c23
          have H1 : (if t272 = true then (r11_choose.j1 k1 l0 l1 a2 x7_1 t266 x9_1 (!true)) else (if a2 = 2 then (r11_choose.j1 k1 l0 l1 a2 x7_1 t266 x9_1 (!(!t272))) else (r11_choose.j1 k1 l0 l1 a2 x7_1 t266 x9_1 (!false)))) = some r := by rw [if_pos rfl] at H; exact H
          clear H
          have H := H1
          clear H1
          by_cases c24 : t272 = true
          ·subst c24
           have H1 : (r11_choose.j1 k1 l0 l1 a2 x7_1 t266 x9_1 (!true)) = some r := by rw [if_pos rfl] at H; exact H
           clear H
           have H := H1
           clear H1
           have H' := Aside0.mk H
           clear H
           go_wp2
           go_meet
           case rel => exact ⟨_, (!true), (by first | rfl | (simp; done) | (simp [*]; done)), H', ⟨by have := HK1.out; first | omega | exact Nat.le_refl _⟩, ⟨by (with_reducible repeat (first | apply Kd.R_alloc | apply Kd.R_drewN | apply Kd.R_drew)); exact HO_7.out⟩, ⟨by (with_reducible repeat (first | apply Kd.R_alloc | apply Kd.R_drewN | apply Kd.R_drew)); exact HO_8.out⟩, ⟨by repeat (first | (with_reducible first | exact HB.out | apply below_alloc | apply pw_below_drewN | apply below_drew1) | exact HB.out)⟩⟩
          ·replace c24 := Bool.eq_false_iff.mpr c24
           subst c24
           have H1 : (if a2 = 2 then (r11_choose.j1 k1 l0 l1 a2 x7_1 t266 x9_1 (!(!false))) else (r11_choose.j1 k1 l0 l1 a2 x7_1 t266 x9_1 (!false))) = some r := by rw [if_neg (show ¬ (false = true) by decide)] at H; exact H
           clear H
           have H := H1
           clear H1
           by_cases c25 : a2 = 2
           ·rw [if_pos c25] at H
            have c25b0 : (a2 == 2) = true := beq_iff_eq.mpr c25
            have c25b1 : (a2 != 2) = false := bne_eq_false_iff_eq.mpr c25
            clear c25
            have H' := Aside0.mk H
            clear H
            go_wp2
            go_meet
            case rel => exact ⟨_, (!(!false)), (by first | rfl | (simp; done) | (simp [*]; done)), H', ⟨by have := HK1.out; first | omega | exact Nat.le_refl _⟩, ⟨by (with_reducible repeat (first | apply Kd.R_alloc | apply Kd.R_drewN | apply Kd.R_drew)); exact HO_7.out⟩, ⟨by (with_reducible repeat (first | apply Kd.R_alloc | apply Kd.R_drewN | apply Kd.R_drew)); exact HO_8.out⟩, ⟨by repeat (first | (with_reducible first | exact HB.out | apply below_alloc | apply pw_below_drewN | apply below_drew1) | exact HB.out)⟩⟩
           ·rw [if_neg c25] at H
            have c25b0 : (a2 == 2) = false := beq_eq_false_iff_ne.mpr c25
            have c25b1 : (a2 != 2) = true := bne_iff_ne.mpr c25
            have H' := Aside0.mk H
            clear H
            go_wp2
            go_meet
            case rel => exact ⟨_, (!false), (by first | rfl | (simp; done) | (simp [*]; done)), H', ⟨by have := HK1.out; first | omega | exact Nat.le_refl _⟩, ⟨by (with_reducible repeat (first | apply Kd.R_alloc | apply Kd.R_drewN | apply Kd.R_drew)); exact HO_7.out⟩, ⟨by (with_reducible repeat (first | apply Kd.R_alloc | apply Kd.R_drewN | apply Kd.R_drew)); exact HO_8.out⟩, ⟨by repeat (first | (with_reducible first | exact HB.out | apply below_alloc | apply pw_below_drewN | apply below_drew1) | exact HB.out)⟩⟩
         ·replace c23 := Bool.eq_false_iff.mpr c23
          subst c23
          have H1 : (if a2 = 2 then (r11_choose.j1 k1 l0 l1 a2 x7_1 t266 x9_1 (!false)) else (r11_choose.j1 k1 l0 l1 a2 x7_1 t266 x9_1 (!false))) = some r := by rw [if_neg (show ¬ (false = true) by decide)] at H; exact H
          clear H
          have H := H1
          clear H1
          by_cases c26 : a2 = 2
          ·rw [if_pos c26] at H
           have c26b0 : (a2 == 2) = true := beq_iff_eq.mpr c26
           have c26b1 : (a2 != 2) = false := bne_eq_false_iff_eq.mpr c26
           clear c26
           have H' := Aside0.mk H
           clear H
           go_wp2
           go_meet
           case rel => exact ⟨_, (!false), (by first | rfl | (simp; done) | (simp [*]; done)), H', ⟨by have := HK1.out; first | omega | exact Nat.le_refl _⟩, ⟨by (with_reducible repeat (first | apply Kd.R_alloc | apply Kd.R_drewN | apply Kd.R_drew)); exact HO_7.out⟩, ⟨by (with_reducible repeat (first | apply Kd.R_alloc | apply Kd.R_drewN | apply Kd.R_drew)); exact HO_8.out⟩, ⟨by repeat (first | (with_reducible first | exact HB.out | apply below_alloc | apply pw_below_drewN | apply below_drew1) | exact HB.out)⟩⟩
          ·rw [if_neg c26] at H
           have c26b0 : (a2 == 2) = false := beq_eq_false_iff_ne.mpr c26
           have c26b1 : (a2 != 2) = true := bne_iff_ne.mpr c26
           have H' := Aside0.mk H
           clear H
           go_wp2
           go_meet
           case rel => exact ⟨_, (!false), (by first | rfl | (simp; done) | (simp [*]; done)), H', ⟨by have := HK1.out; first | omega | exact Nat.le_refl _⟩, ⟨by (with_reducible repeat (first | apply Kd.R_alloc | apply Kd.R_drewN | apply Kd.R_drew)); exact HO_7.out⟩, ⟨by (with_reducible repeat (first | apply Kd.R_alloc | apply Kd.R_drewN | apply Kd.R_drew)); exact HO_8.out⟩, ⟨by repeat (first | (with_reducible first | exact HB.out | apply below_alloc | apply pw_below_drewN | apply below_drew1) | exact HB.out)⟩⟩
        ·rw [if_neg c22] at H
         have c22b0 : (a2 == 1) = false := beq_eq_false_iff_ne.mpr c22
         have c22b1 : (a2 != 1) = true := bne_iff_ne.mpr c22
         by_cases c27 : a2 = 2
         ·rw [if_pos c27] at H
          have c27b0 : (a2 == 2) = true := beq_iff_eq.mpr c27
          have c27b1 : (a2 != 2) = false := bne_eq_false_iff_eq.mpr c27
          clear c27
          by_cases c28 : t270 = true
          ·subst c28
           have H1 : (r11_choose.j1 k1 l0 l1 a2 x7_1 t266 x9_1 (!(!t272))) = some r := by rw [if_pos rfl] at H; exact H
           clear H
           have H := H1
           clear H1
           have H' := Aside0.mk H
           clear H
           go_wp2
           go_meet
           case rel => exact ⟨_, (!(!t272)), (by first | rfl | (simp; done) | (simp [*]; done)), H', ⟨by have := HK1.out; first | omega | exact Nat.le_refl _⟩, ⟨by (with_reducible repeat (first | apply Kd.R_alloc | apply Kd.R_drewN | apply Kd.R_drew)); exact HO_7.out⟩, ⟨by (with_reducible repeat (first | apply Kd.R_alloc | apply Kd.R_drewN | apply Kd.R_drew)); exact HO_8.out⟩, ⟨by repeat (first | (with_reducible first | exact HB.out | apply below_alloc | apply pw_below_drewN | apply below_drew1) | exact HB.out)⟩⟩
          ·replace c28 := Bool.eq_false_iff.mpr c28
           subst c28
           have H1 : (r11_choose.j1 k1 l0 l1 a2 x7_1 t266 x9_1 (!false)) = some r := by rw [if_neg (show ¬ (false = true) by decide)] at H; exact H
           clear H
           have H := H1
           clear H1
           have H' := Aside0.mk H
           clear H
           go_wp2
           go_meet
           case rel => exact ⟨_, (!false), (by first | rfl | (simp; done) | (simp [*]; done)), H', ⟨by have := HK1.out; first | omega | exact Nat.le_refl _⟩, ⟨by (with_reducible repeat (first | apply Kd.R_alloc | apply Kd.R_drewN | apply Kd.R_drew)); exact HO_7.out⟩, ⟨by (with_reducible repeat (first | apply Kd.R_alloc | apply Kd.R_drewN | apply Kd.R_drew)); exact HO_8.out⟩, ⟨by repeat (first | (with_reducible first | exact HB.out | apply below_alloc | apply pw_below_drewN | apply below_drew1) | exact HB.out)⟩⟩
         ·rw [if_neg c27] at H
          have c27b0 : (a2 == 2) = false := beq_eq_false_iff_ne.mpr c27
          have c27b1 : (a2 != 2) = true := bne_iff_ne.mpr c27
          have H' := Aside0.mk H
          clear H
          go_wp2
          go_meet
          case rel => exact ⟨_, (!false), (by first | rfl | (simp; done) | (simp [*]; done)), H', ⟨by have := HK1.out; first | omega | exact Nat.le_refl _⟩, ⟨by (with_reducible repeat (first | apply Kd.R_alloc | apply Kd.R_drewN | apply Kd.R_drew)); exact HO_7.out⟩, ⟨by (with_reducible repeat (first | apply Kd.R_alloc | apply Kd.R_drewN | apply Kd.R_drew)); exact HO_8.out⟩, ⟨by repeat (first | (with_reducible first | exact HB.out | apply below_alloc | apply pw_below_drewN | apply below_drew1) | exact HB.out)⟩⟩
      case rest =>
       clear HC13
       try clear c1
       try clear c2
       try clear p2
       try clear q2
       try clear hx2
       try clear c3
       try clear c4
       try clear p6
       try clear c8
       try clear c8b0
       try clear c9
       try clear c9b0
       try clear c10
       try clear c10b0
       try clear c16
       try clear c16b0
       try clear c16b1
       try clear c17
       try clear c18
       try clear c19
       try clear c19b0
       try clear c19b1
       try clear c20
       try clear c20b0
       try clear c20b1
       try clear c21
       try clear c21b0
       try clear c21b1
       try clear c22
       try clear c22b0
       try clear c22b1
       try clear c23
       try clear c24
       try clear c25
       try clear c25b0
       try clear c25b1
       try clear c26
       try clear c26b0
       try clear c26b1
       try clear p26
       try clear q26
       try clear hx26
       try clear c27
       try clear c27b0
       try clear c27b1
       try clear p27
       try clear q27
       try clear hx27
       try clear c28
       try clear hx269_0
       try clear hx271_0
       try clear p2
       try clear p269
       try clear p271
       try clear q269
       try clear q271
       obtain ⟨kq, x65_12, rfl, HA, HJ12, HO_7, HO_8, HB⟩ := hcut
       cases kq with
       | zero => exact absurd HA.out (by simp [r11_choose.j1])
       | succ kj12 =>
        have H := HA.out
        clear HA
        simp only [r11_choose.j1] at H
        by_cases c29 : x65_12 = true
        ·subst c29
         have H1 : (r11_choose.l0 kj12 l0 l1 a2 x7_1 t266 (wrap64 (x9_1 + 1))) = some r := by rw [if_pos rfl] at H; exact H
         clear H
         have H := H1
         clear H1
         have H' := Aside0.mk H
         clear H
         go_wp2
         go_roundg kj12
         case measure => have := HK1.out; have := HJ12.out; omega
         case rel => exact ⟨(x7_1), (wrap64 (x9_1 + 1)), (by first | rfl | (simp; done) | (simp [*]; done)), H', ⟨by have := HK1.out; have := HJ12.out; omega⟩, ⟨by (with_reducible repeat (first | apply Kd.R_alloc | apply Kd.R_drewN | apply Kd.R_drew)); exact HO_7.out⟩, ⟨by (with_reducible repeat (first | apply Kd.R_alloc | apply Kd.R_drewN | apply Kd.R_drew)); exact HO_8.out⟩, ⟨by repeat (first | (with_reducible first | exact HB.out | apply below_alloc | apply pw_below_drewN | apply below_drew1) | exact HB.out)⟩⟩
        ·replace c29 := Bool.eq_false_iff.mpr c29
         subst c29
         have H1 : (if (wrap64 ((x7_1.length : Int) - 1)) ≥ 0 then (if 0 ≤ (wrap64 ((x7_1.length : Int) - 1)) then (if (wrap64 ((x7_1.length : Int) - 1)) < (x7_1.length : Int) then (if 0 ≤ x9_1 then (if x9_1 < (t266.length : Int) then (if ((rd_T24 x7_1 (wrap64 ((x7_1.length : Int) - 1))).f1) = (rd t266 x9_1) then (if 0 ≤ (wrap64 (x9_1 + 1)) then (if (wrap64 (x9_1 + 1)) < (t266.length : Int) then (r11_choose.l0 kj12 l0 l1 a2 (x7_1.set ((wrap64 ((x7_1.length : Int) - 1)) : Int).toNat (⟨(rd_T24 x7_1 (wrap64 ((x7_1.length : Int) - 1))).f0, rd t266 (wrap64 (x9_1 + 1))⟩ : S24)) t266 (wrap64 (x9_1 + 1))) else (none)) else (none)) else (if 0 ≤ (wrap64 (x9_1 + 1)) then (if (wrap64 (x9_1 + 1)) < (t266.length : Int) then (if x7_1.length < 8796093022208 then (r11_choose.l0 kj12 l0 l1 a2 (x7_1 ++ [(⟨rd t266 x9_1, rd t266 (wrap64 (x9_1 + 1))⟩ : S24)]) t266 (wrap64 (x9_1 + 1))) else (none)) else (none)) else (none))) else (none)) else (none)) else (none)) else (none)) else (if 0 ≤ x9_1 then (if x9_1 < (t266.length : Int) then (if 0 ≤ (wrap64 (x9_1 + 1)) then (if (wrap64 (x9_1 + 1)) < (t266.length : Int) then (if x7_1.length < 8796093022208 then (r11_choose.l0 kj12 l0 l1 a2 (x7_1 ++ [(⟨rd t266 x9_1, rd t266 (wrap64 (x9_1 + 1))⟩ : S24)]) t266 (wrap64 (x9_1 + 1))) else (none)) else (none)) else (none)) else (none)) else (none))) = some r := by rw [if_neg (show ¬ (false = true) by decide)] at H; exact H
         clear H
         have H := H1
         clear H1
         by_cases c30 : (wrap64 ((x7_1.length : Int) - 1)) ≥ 0
         ·rw [if_pos c30] at H
          have c30b0 : decide (0 ≤ (wrap64 ((x7_1.length : Int) - 1))) = true := decide_eq_true c30
          clear c30
          obtain ⟨ji31, hji31⟩ : ∃ j_ : Int, (wrap64 ((x7_1.length : Int) - 1)) = j_ := ⟨_, rfl⟩
          replace H : (if 0 ≤ (ji31) then (if (ji31) < (x7_1.length : Int) then (if 0 ≤ x9_1 then (if x9_1 < (t266.length : Int) then (if ((rd_T24 x7_1 (ji31)).f1) = (rd t266 x9_1) then (if 0 ≤ (wrap64 (x9_1 + 1)) then (if (wrap64 (x9_1 + 1)) < (t266.length : Int) then (r11_choose.l0 kj12 l0 l1 a2 (x7_1.set ((ji31) : Int).toNat (⟨(rd_T24 x7_1 (ji31)).f0, rd t266 (wrap64 (x9_1 + 1))⟩ : S24)) t266 (wrap64 (x9_1 + 1))) else (none)) else (none)) else (if 0 ≤ (wrap64 (x9_1 + 1)) then (if (wrap64 (x9_1 + 1)) < (t266.length : Int) then (if x7_1.length < 8796093022208 then (r11_choose.l0 kj12 l0 l1 a2 (x7_1 ++ [(⟨rd t266 x9_1, rd t266 (wrap64 (x9_1 + 1))⟩ : S24)]) t266 (wrap64 (x9_1 + 1))) else (none)) else (none)) else (none))) else (none)) else (none)) else (none)) else (none)) = some r := by first | (rw [hji31] at H; exact H) | (simp only [hji31] at H ⊢; exact H)
          (try rw [hji31] at c30b0)
          have hji31w : (IntKind.i64.wrap ((x7_1.length : Int) - 1)) = ji31 := (i64_w _).trans hji31
          by_cases c32 : 0 ≤ (ji31)
          ·rw [if_pos c32] at H
           have c32b0 : decide (0 ≤ (ji31)) = true := decide_eq_true c32
           clear c32
           by_cases c33 : (ji31) < (x7_1.length : Int)
           ·rw [if_pos c33] at H
            have c33b0 : decide ((ji31) < (x7_1.length : Int)) = true := decide_eq_true c33
            clear c33
            by_cases c34 : 0 ≤ x9_1
            ·rw [if_pos c34] at H
             have c34b0 : decide (0 ≤ x9_1) = true := decide_eq_true c34
             clear c34
             by_cases c35 : x9_1 < (t266.length : Int)
             ·rw [if_pos c35] at H
              have c35b0 : decide (x9_1 < (t266.length : Int)) = true := decide_eq_true c35
              clear c35
              by_cases c36 : ((rd_T24 x7_1 (ji31)).f1) = (rd t266 x9_1)
              ·rw [if_pos c36] at H
               have c36b0 : (((rd_T24 x7_1 (ji31)).f1) == (rd t266 x9_1)) = true := beq_iff_eq.mpr c36
               have c36b1 : (((rd_T24 x7_1 (ji31)).f1) != (rd t266 x9_1)) = false := bne_eq_false_iff_eq.mpr c36
               clear c36
               obtain ⟨ji37, hji37⟩ : ∃ j_ : Int, (wrap64 (x9_1 + 1)) = j_ := ⟨_, rfl⟩
               replace H : (if 0 ≤ (ji37) then (if (ji37) < (t266.length : Int) then (r11_choose.l0 kj12 l0 l1 a2 (x7_1.set ((ji31) : Int).toNat (⟨(rd_T24 x7_1 (ji31)).f0, rd t266 (ji37)⟩ : S24)) t266 ji37) else (none)) else (none)) = some r := by first | (rw [hji37] at H; exact H) | (simp only [hji37] at H ⊢; exact H)
               (try rw [hji37] at c8b0)
               have hji37w : (IntKind.i64.wrap (x9_1 + 1)) = ji37 := (i64_w _).trans hji37
               by_cases c38 : 0 ≤ (ji37)
               ·rw [if_pos c38] at H
                have c38b0 : decide (0 ≤ (ji37)) = true := decide_eq_true c38
                clear c38
                by_cases c39 : (ji37) < (t266.length : Int)
                ·rw [if_pos c39] at H
                 have c39b0 : decide ((ji37) < (t266.length : Int)) = true := decide_eq_true c39
                 clear c39
                 obtain ⟨y276, hy276⟩ : ∃ y_ : List (S24), y_ = (x7_1.set ((ji31) : Int).toNat (⟨(rd_T24 x7_1 (ji31)).f0, rd t266 (ji37)⟩ : S24)) := ⟨_, rfl⟩
                 replace H : (r11_choose.l0 kj12 l0 l1 a2 y276 t266 ji37) = some r := by first | (rw [hy276]; with_reducible exact H) | (have H2_ := (Option.bind_some _ _).symm.trans H; rw [hy276]; with_reducible exact H2_) | (have H2_ := (Option.bind_some _ _).symm.trans H; with_reducible exact H2_) | with_reducible exact H | (rw [hy276]; exact H) | exact H
                 have Ny276 := Aside0.mk hy276
                 clear hy276
                 have H' := Aside0.mk H
                 clear H
                 obtain ⟨Ao41, co41, eo41⟩ := Kd.R_slice HO_7.out
                 subst eo41
                 try go_wp2
                 have n0_ := Aside0.mk (Kd.R_drew HO_7.out)
                 have n1_ := Aside0.mk (Kd.R_drew HO_8.out)
                 have n2_ := Aside0.mk (below_drew1 HB.out)
                 clear HO_7
                 clear HO_8
                 clear HB
                 have HO_7 := n0_
                 have HO_8 := n1_
                 have HB := n2_
                 clear n0_ n1_ n2_
                 have p273 : 0 ≤ ((ji31) : Int) := of_decide_eq_true (by first | (with_reducible assumption) | assumption)
                 have q273 : (ji31) < (x7_1.length : Int) := of_decide_eq_true (by first | (with_reducible assumption) | assumption)
                 obtain ⟨ad273, e273, hx273_0, hx273_1⟩ := at_T24 (Kd.R_reads' HO_7.out).2.2 (ji31) p273 q273
                 cases e273
                 replace p273 := eq_true p273
                 replace q273 := eq_true q273
                 have p274 : 0 ≤ (x9_1 : Int) := of_decide_eq_true (by first | (with_reducible assumption) | assumption)
                 have q274 : x9_1 < (t266.length : Int) := of_decide_eq_true (by first | (with_reducible assumption) | assumption)
                 obtain ⟨ad274, e274, hx274_0⟩ := Kd.at_int (Kd.R_reads' HO_8.out).2.2 x9_1 p274 q274
                 obtain rfl : ad269 = ad274 := (by injection e274)
                 replace p274 := eq_true p274
                 replace q274 := eq_true q274
                 refine start_ (n := 14) (S := fun w' => w'.cell? (ad273.add (((ji31)).toNat * 2)) = some (.int .i64 ((rd_T24 x7_1 (ji31)).f0)) ∧ w'.cell? ⟨(ad273.add (((ji31)).toNat * 2)).block, (ad273.add (((ji31)).toNat * 2)).off + 1, none⟩ = some (.int .i64 ((rd_T24 x7_1 (ji31)).f1)) ∧ w'.cell? (ad269.add (x9_1).toNat) = some (.int .i64 (rd t266 x9_1))) (ds := []) #[false, false, false, false, false, false, false, false, false, false, false, false, false, false] (by kernel_rfl) rfl rfl ⟨hx273_0, hx273_1, hx274_0⟩ (fun hHeld => ?_); refine with_tabW r11_choose.tab8 r11_choose.bits8 (fun HT_ HW_ => ?_)
                 generalize wc.drew = w42 at HO_7 HO_8 HB hx273_0 hx273_1 hx274_0 hHeld ⊢
                 refine pure_ (i := 0) (N := some 69) (v := ?_) (a' := ?_) #[true, false, false, false, false, false, false, false, false, false, false, false, false, false] rfl rfl (any_of HT_.out (by kernel_rfl)) (fun _ _ _ h => h) (Or.inl ⟨by rfl, ?_⟩) ?_ ?_
                 rotate_left
                 ·intro w'
                  go_simp
                  with_reducible rfl
                 rotate_left
                 ·simp only [Act.put, List.setIfInBounds_toArray, List.set_cons_zero, List.set_cons_succ, i64_w, i32_w]
                  rfl
                 refine pure_ (i := 1) (N := some 70) (v := ?_) (a' := ?_) #[true, true, false, false, false, false, false, false, false, false, false, false, false, false] rfl rfl (any_of HT_.out (by kernel_rfl)) (fun _ _ _ h => h) (Or.inl ⟨by rfl, ?_⟩) ?_ ?_
                 rotate_left
                 ·intro w'
                  go_simp
                  with_reducible rfl
                 rotate_left
                 ·simp only [Act.put, List.setIfInBounds_toArray, List.set_cons_zero, List.set_cons_succ, i64_w, i32_w]
                  rfl
                 refine pure_ (i := 2) (N := some 71) (v := ?_) (a' := ?_) #[true, true, true, false, false, false, false, false, false, false, false, false, false, false] rfl rfl (any_of HT_.out (by kernel_rfl)) (fun _ _ _ h => h) (Or.inl ⟨by rfl, ?_⟩) ?_ ?_
                 rotate_left
                 ·intro w'
                  go_simp
                  with_reducible rfl
                 rotate_left
                 ·simp only [Act.put, List.setIfInBounds_toArray, List.set_cons_zero, List.set_cons_succ, i64_w, i32_w]
                  rfl
                 refine pure_ (i := 3) (N := some 72) (v := ?_) (a' := ?_) #[true, true, true, true, false, false, false, false, false, false, false, false, false, false] rfl rfl (any_of HT_.out (by kernel_rfl)) (fun _ _ _ h => h) (Or.inl ⟨by rfl, ?_⟩) ?_ ?_
                 rotate_left
                 ·intro w'
                  go_simp
                  with_reducible rfl
                 rotate_left
                 ·simp only [Act.put, List.setIfInBounds_toArray, List.set_cons_zero, List.set_cons_succ, i64_w, i32_w]
                  rfl
                 refine pure_ (i := 4) (N := some 73) (v := ?_) (a' := ?_) #[true, true, true, true, true, false, false, false, false, false, false, false, false, false] rfl rfl (any_of HT_.out (by kernel_rfl)) (fun _ _ _ h => h) (Or.inl ⟨by rfl, ?_⟩) ?_ ?_
                 rotate_left
                 ·intro w'
                  go_simp
                  with_reducible rfl
                 rotate_left
                 ·simp only [Act.put, List.setIfInBounds_toArray, List.set_cons_zero, List.set_cons_succ, i64_w, i32_w]
                  rfl
                 refine pure_ (i := 5) (N := some 74) (v := ?_) (a' := ?_) #[true, true, true, true, true, true, false, false, false, false, false, false, false, false] rfl rfl (any_of HT_.out (by kernel_rfl)) (fun _ _ _ h => h) (Or.inl ⟨by rfl, ?_⟩) ?_ ?_
                 rotate_left
                 ·intro w'
                  go_simp
                  with_reducible rfl
                 rotate_left
                 ·simp only [Act.put, List.setIfInBounds_toArray, List.set_cons_zero, List.set_cons_succ, i64_w, i32_w]
                  rfl
                 refine pure_ (i := 6) (N := some 75) (v := ?_) (a' := ?_) #[true, true, true, true, true, true, true, false, false, false, false, false, false, false] rfl rfl (any_of HT_.out (by kernel_rfl)) (fun _ _ _ h => h) (Or.inl ⟨by rfl, ?_⟩) ?_ ?_
                 rotate_left
                 ·intro w'
                  go_simp
                  with_reducible rfl
                 rotate_left
                 ·simp only [Act.put, List.setIfInBounds_toArray, List.set_cons_zero, List.set_cons_succ, i64_w, i32_w]
                  rfl
                 refine pure_ (i := 8) (N := some 77) (v := ?_) (a' := ?_) #[true, true, true, true, true, true, true, false, true, false, false, false, false, false] rfl rfl (any_of HT_.out (by kernel_rfl)) (fun _ _ _ h => h) (Or.inl ⟨by rfl, ?_⟩) ?_ ?_
                 rotate_left
                 ·intro w'
                  go_simp
                  with_reducible rfl
                 rotate_left
                 ·simp only [Act.put, List.setIfInBounds_toArray, List.set_cons_zero, List.set_cons_succ, i64_w, i32_w]
                  rfl
                 refine pure_ (i := 9) (N := some 78) (v := ?_) (a' := ?_) #[true, true, true, true, true, true, true, false, true, true, false, false, false, false] rfl rfl (any_of HT_.out (by kernel_rfl)) (fun _ _ _ h => h) (Or.inl ⟨by rfl, ?_⟩) ?_ ?_
                 rotate_left
                 ·intro w'
                  go_simp
                  with_reducible rfl
                 rotate_left
                 ·simp only [Act.put, List.setIfInBounds_toArray, List.set_cons_zero, List.set_cons_succ, i64_w, i32_w]
                  rfl
                 refine pure_ (i := 10) (N := some 79) (v := ?_) (a' := ?_) #[true, true, true, true, true, true, true, false, true, true, true, false, false, false] rfl rfl (any_of HT_.out (by kernel_rfl)) (fun _ _ _ h => h) (Or.inl ⟨by rfl, ?_⟩) ?_ ?_
                 rotate_left
                 ·intro w'
                  go_simp
                  with_reducible rfl
                 rotate_left
                 ·simp only [Act.put, List.setIfInBounds_toArray, List.set_cons_zero, List.set_cons_succ, i64_w, i32_w]
                  rfl
                 refine take_ (i := 7) (N := some 76) (v := ?_) (a' := ?_) #[true, true, true, true, true, true, true, true, true, true, true, false, false, false] rfl rfl (take_ofW HT_.out HW_.out (by kernel_rfl)) (fun _ _ _ h => h) (Or.inl ⟨by rfl, ?_⟩) hHeld ?_ ?_
                 rotate_left
                 ·rintro w' ⟨s0, s1, s2⟩
                  go_simp
                  with_reducible rfl
                 rotate_left
                 ·simp only [Act.put, List.setIfInBounds_toArray, List.set_cons_zero, List.set_cons_succ, i64_w, i32_w]
                  rfl
                 refine take_ (i := 11) (N := some 80) (v := ?_) (a' := ?_) #[true, true, true, true, true, true, true, true, true, true, true, true, false, false] rfl rfl (take_ofW HT_.out HW_.out (by kernel_rfl)) (fun _ _ _ h => h) (Or.inl ⟨by rfl, ?_⟩) hHeld ?_ ?_
                 rotate_left
                 ·rintro w' ⟨s0, s1, s2⟩
                  go_simp
                  with_reducible rfl
                 rotate_left
                 ·simp only [Act.put, List.setIfInBounds_toArray, List.set_cons_zero, List.set_cons_succ, i64_w, i32_w]
                  rfl
                 refine pure_ (i := 12) (N := some 81) (v := ?_) (a' := ?_) #[true, true, true, true, true, true, true, true, true, true, true, true, true, false] rfl rfl (any_of HT_.out (by kernel_rfl)) (fun _ _ _ h => h) (Or.inl ⟨by rfl, ?_⟩) ?_ ?_
                 rotate_left
                 ·intro w'
                  go_simp
                  with_reducible rfl
                 rotate_left
                 ·simp only [Act.put, List.setIfInBounds_toArray, List.set_cons_zero, List.set_cons_succ, i64_w, i32_w]
                  rfl
                 refine pure_ (i := 13) (N := some 82) (v := ?_) (a' := ?_) #[true, true, true, true, true, true, true, true, true, true, true, true, true, true] rfl rfl (any_of HT_.out (by kernel_rfl)) (fun _ _ _ h => h) (Or.inl ⟨by rfl, ?_⟩) ?_ ?_
                 rotate_left
                 ·intro w'
                  go_simp
                  with_reducible rfl
                 rotate_left
                 ·simp only [Act.put, List.setIfInBounds_toArray, List.set_cons_zero, List.set_cons_succ, i64_w, i32_w]
                  rfl
                 refine done_ (done_of HT_.out (by kernel_rfl)) ?_
                 have p275 : 0 ≤ ((ji37) : Int) := of_decide_eq_true (by first | (with_reducible assumption) | assumption)
                 have q275 : (ji37) < (t266.length : Int) := of_decide_eq_true (by first | (with_reducible assumption) | assumption)
                 obtain ⟨ad275, e275, hx275_0⟩ := Kd.at_int (Kd.R_reads' HO_8.out).2.2 (ji37) p275 q275
                 obtain rfl : ad269 = ad275 := (by injection e275)
                 replace p275 := eq_true p275
                 replace q275 := eq_true q275
                 have p40 : 0 ≤ ((ji31) : Int) := of_decide_eq_true (by first | (with_reducible assumption) | assumption)
                 have q40 : ((ji31) : Int) < ((x7_1.length : Int) : Int) := of_decide_eq_true (by first | (with_reducible assumption) | assumption)
                 obtain ⟨go40, co40, eo40, gb40, gl40, cl40, HG40⟩ := Kd.R_form HO_7.out (by omega)
                 (first | cases eo40 | (injection eo40 with ea_ en_ ec_; (first | subst ea_ | (injection ea_ with ea_; subst ea_)); subst ec_; clear en_))
                 have GB40 := Aside0.mk gb40
                 have GG40 := Aside0.mk HG40
                 clear gb40 gl40 HG40
                 (first | simp only [add_plain] at hx273_0 | skip)
                 (first | simp only [add_plain] at hx273_1 | skip)
                 obtain ⟨ce40, hcl40, hM40, hcc40, hfr40⟩ := Kd.R_elem HO_7.out z24 ((ji31) : Int) p40 q40
                 obtain rfl := k24_openM hM40
                 have hx40_0 : w42.cell? ⟨go40, ((ji31) : Int).toNat * 2, none⟩ = some (.int .i64 ((rd_T24 x7_1 (ji31)).f0)) := hcc40 0 _ rfl
                 have hx40_1 : w42.cell? ⟨go40, ((ji31) : Int).toNat * 2 + 1, none⟩ = some (.int .i64 ((rd_T24 x7_1 (ji31)).f1)) := hcc40 1 _ rfl
                 have hf40_0 : w42.frozen? ⟨go40, ((ji31) : Int).toNat * 2, none⟩ = false := hfr40 0
                 have hf40_1 : w42.frozen? ⟨go40, ((ji31) : Int).toNat * 2 + 1, none⟩ = false := hfr40 1
                 clear hcl40 hcc40 hfr40 hM40
                 replace p40 := eq_true p40
                 replace q40 := eq_true q40
                 have HX43 := Aside0.mk (show Kd.R k24 24 w42 w.heap.size (fun _ => True) (.slice (some ⟨go40, 0, none⟩) x7_1.length co41) x7_1 from (rZ HO_7.out))
                 obtain ⟨ce43, hcl43, hM43, hcc43, hfr43⟩ := Kd.R_elem HX43.out z24 ((ji31) : Int) (of_decide_eq_true (by first | (with_reducible assumption) | assumption)) (by have h_ : ((ji31) : Int) < ((x7_1.length : Int) : Int) := of_decide_eq_true (by first | (with_reducible assumption) | assumption); first | exact h_ | (have e_ := (Kd.R_reads' HO_7.out).1; omega) | simpa using h_)
                 obtain rfl := k24_openM hM43
                 have HP43 := Kd.R_seg HX43.out ((ji31) : Int) (of_decide_eq_true (by first | (with_reducible assumption) | assumption)) (by have h_ : ((ji31) : Int) < ((x7_1.length : Int) : Int) := of_decide_eq_true (by first | (with_reducible assumption) | assumption); first | exact h_ | (have e_ := (Kd.R_reads' HO_7.out).1; omega) | simpa using h_) (seg := [.int .i64 (rd t266 (ji37))]) (j := 1) hcl43 hcc43 (show 2 ≤ 2 from by decide) (x' := (⟨(rd_T24 x7_1 (ji31)).f0, rd t266 (ji37)⟩ : S24)) (k24_mkM _ _ _ (⟨(rd_T24 x7_1 (ji31)).f0, rd t266 (ji37)⟩ : S24) ) (fun _ hk => hk)
                 have hx43_1 := hcc43 1 _ rfl
                 (try simp only [show (k24).sz = 2 from rfl, Nat.mul_one, Nat.add_zero] at hx43_1)
                 have hf43_1 := hfr43 1
                 (try simp only [show (k24).sz = 2 from rfl, Nat.mul_one, Nat.add_zero] at hf43_1)
                 clear hcl43 hcc43 hfr43 hM43
                 try go_wp2_with (first | ((with_reducible refine gate_store (t := 3) (p := 91) rfl ?_); refine store_event (t := 3) (p := 91) (v := ?vo_w44) (w1 := (w42.setCell ⟨go40, ((ji31) : Int).toNat * 2 + 1, none⟩ (.int .i64 (rd t266 (ji37))))) ?hg ?ho ?hn ?hr ?_; (case ho => rfl); (case hg => rfl); (case hn => rfl); (case hr => first | (go_simp; done) | (go_simp; rfl)); intro w44 hw; have hg : w42.grownBy w44 (some go40) := (by rw [hw]; exact HP43.2); have hp_ : Kd.R k24 24 w44 w.heap.size (fun _ => True) (.slice (some ⟨go40, 0, none⟩) x7_1.length co41) y276 := (by rw [hw, Ny276.out]; exact HP43.1); clear HP43; have n0_ := Aside0.mk (hp_); have n1_ := Aside0.mk (Kd.R_over' (v := (.slice (some ⟨go40, 0, none⟩) x7_1.length co41)) (rZ HO_8.out) (Kd.R_typed HO_7.out) (by decide) hg); have n2_ := Aside0.mk ((by rw [hw]; exact below_set (HB.out) GB40.out : Below w.heap.size w w44)); clear HO_7; clear HO_8; clear HB; have HO_7 := n0_; have HO_8 := n1_; have HB := n2_; clear n0_ n1_ n2_; clear hg hw hp_))
                 go_roundg kj12
                 case measure => have := HK1.out; have := HJ12.out; omega
                 case rel => exact ⟨(y276), (ji37), (by first | rfl | (simp; done) | (simp only [← hji37] <;> (first | rfl | simp)) | (simp [*]; done)), H', ⟨by have := HK1.out; have := HJ12.out; omega⟩, ⟨by (with_reducible repeat (first | apply Kd.R_alloc | apply Kd.R_drewN | apply Kd.R_drew)); exact HO_7.out⟩, ⟨by (with_reducible repeat (first | apply Kd.R_alloc | apply Kd.R_drewN | apply Kd.R_drew)); exact HO_8.out⟩, ⟨by repeat (first | (with_reducible first | exact HB.out | apply below_alloc | apply pw_below_drewN | apply below_drew1) | exact HB.out)⟩⟩
                ·rw [if_neg c39] at H
                 exact absurd H (by simp)
               ·rw [if_neg c38] at H
                exact absurd H (by simp)
              ·rw [if_neg c36] at H
               have c36b0 : (((rd_T24 x7_1 (ji31)).f1) == (rd t266 x9_1)) = false := beq_eq_false_iff_ne.mpr c36
               have c36b1 : (((rd_T24 x7_1 (ji31)).f1) != (rd t266 x9_1)) = true := bne_iff_ne.mpr c36
               obtain ⟨ji45, hji45⟩ : ∃ j_ : Int, (wrap64 (x9_1 + 1)) = j_ := ⟨_, rfl⟩
               replace H : (if 0 ≤ (ji45) then (if (ji45) < (t266.length : Int) then (if x7_1.length < 8796093022208 then (r11_choose.l0 kj12 l0 l1 a2 (x7_1 ++ [(⟨rd t266 x9_1, rd t266 (ji45)⟩ : S24)]) t266 ji45) else (none)) else (none)) else (none)) = some r := by first | (rw [hji45] at H; exact H) | (simp only [hji45] at H ⊢; exact H)
               (try rw [hji45] at c8b0)
               have hji45w : (IntKind.i64.wrap (x9_1 + 1)) = ji45 := (i64_w _).trans hji45
               by_cases c46 : 0 ≤ (ji45)
               ·rw [if_pos c46] at H
                have c46b0 : decide (0 ≤ (ji45)) = true := decide_eq_true c46
                clear c46
                by_cases c47 : (ji45) < (t266.length : Int)
                ·rw [if_pos c47] at H
                 have c47b0 : decide ((ji45) < (t266.length : Int)) = true := decide_eq_true c47
                 clear c47
                 by_cases c48 : x7_1.length < 8796093022208
                 ·rw [if_pos c48] at H
                  have LMc48 := Aside0.mk c48
                  clear c48
                  obtain ⟨y279, hy279⟩ : ∃ y_ : List (S24), y_ = (x7_1 ++ [(⟨rd t266 x9_1, rd t266 (ji45)⟩ : S24)]) := ⟨_, rfl⟩
                  replace H : (r11_choose.l0 kj12 l0 l1 a2 y279 t266 ji45) = some r := by first | (rw [hy279]; with_reducible exact H) | (have H2_ := (Option.bind_some _ _).symm.trans H; rw [hy279]; with_reducible exact H2_) | (have H2_ := (Option.bind_some _ _).symm.trans H; with_reducible exact H2_) | with_reducible exact H | (rw [hy279]; exact H) | exact H
                  have Ny279 := Aside0.mk hy279
                  clear hy279
                  have H' := Aside0.mk H
                  clear H
                  obtain ⟨Ao49, co49, eo49⟩ := Kd.R_slice HO_7.out
                  subst eo49
                  try go_wp2
                  have n0_ := Aside0.mk (Kd.R_drew HO_7.out)
                  have n1_ := Aside0.mk (Kd.R_drew HO_8.out)
                  have n2_ := Aside0.mk (below_drew1 HB.out)
                  clear HO_7
                  clear HO_8
                  clear HB
                  have HO_7 := n0_
                  have HO_8 := n1_
                  have HB := n2_
                  clear n0_ n1_ n2_
                  have p273 : 0 ≤ ((ji31) : Int) := of_decide_eq_true (by first | (with_reducible assumption) | assumption)
                  have q273 : (ji31) < (x7_1.length : Int) := of_decide_eq_true (by first | (with_reducible assumption) | assumption)
                  obtain ⟨ad273, e273, hx273_0, hx273_1⟩ := at_T24 (Kd.R_reads' HO_7.out).2.2 (ji31) p273 q273
                  cases e273
                  replace p273 := eq_true p273
                  replace q273 := eq_true q273
                  have p274 : 0 ≤ (x9_1 : Int) := of_decide_eq_true (by first | (with_reducible assumption) | assumption)
                  have q274 : x9_1 < (t266.length : Int) := of_decide_eq_true (by first | (with_reducible assumption) | assumption)
                  obtain ⟨ad274, e274, hx274_0⟩ := Kd.at_int (Kd.R_reads' HO_8.out).2.2 x9_1 p274 q274
                  obtain rfl : ad269 = ad274 := (by injection e274)
                  replace p274 := eq_true p274
                  replace q274 := eq_true q274
                  refine start_ (n := 14) (S := fun w' => w'.cell? (ad273.add (((ji31)).toNat * 2)) = some (.int .i64 ((rd_T24 x7_1 (ji31)).f0)) ∧ w'.cell? ⟨(ad273.add (((ji31)).toNat * 2)).block, (ad273.add (((ji31)).toNat * 2)).off + 1, none⟩ = some (.int .i64 ((rd_T24 x7_1 (ji31)).f1)) ∧ w'.cell? (ad269.add (x9_1).toNat) = some (.int .i64 (rd t266 x9_1))) (ds := []) #[false, false, false, false, false, false, false, false, false, false, false, false, false, false] (by kernel_rfl) rfl rfl ⟨hx273_0, hx273_1, hx274_0⟩ (fun hHeld => ?_); refine with_tabW r11_choose.tab8 r11_choose.bits8 (fun HT_ HW_ => ?_)
                  generalize wc.drew = w50 at HO_7 HO_8 HB hx273_0 hx273_1 hx274_0 hHeld ⊢
                  refine pure_ (i := 0) (N := some 69) (v := ?_) (a' := ?_) #[true, false, false, false, false, false, false, false, false, false, false, false, false, false] rfl rfl (any_of HT_.out (by kernel_rfl)) (fun _ _ _ h => h) (Or.inl ⟨by rfl, ?_⟩) ?_ ?_
                  rotate_left
                  ·intro w'
                   go_simp
                   with_reducible rfl
                  rotate_left
                  ·simp only [Act.put, List.setIfInBounds_toArray, List.set_cons_zero, List.set_cons_succ, i64_w, i32_w]
                   rfl
                  refine pure_ (i := 1) (N := some 70) (v := ?_) (a' := ?_) #[true, true, false, false, false, false, false, false, false, false, false, false, false, false] rfl rfl (any_of HT_.out (by kernel_rfl)) (fun _ _ _ h => h) (Or.inl ⟨by rfl, ?_⟩) ?_ ?_
                  rotate_left
                  ·intro w'
                   go_simp
                   with_reducible rfl
                  rotate_left
                  ·simp only [Act.put, List.setIfInBounds_toArray, List.set_cons_zero, List.set_cons_succ, i64_w, i32_w]
                   rfl
                  refine pure_ (i := 2) (N := some 71) (v := ?_) (a' := ?_) #[true, true, true, false, false, false, false, false, false, false, false, false, false, false] rfl rfl (any_of HT_.out (by kernel_rfl)) (fun _ _ _ h => h) (Or.inl ⟨by rfl, ?_⟩) ?_ ?_
                  rotate_left
                  ·intro w'
                   go_simp
                   with_reducible rfl
                  rotate_left
                  ·simp only [Act.put, List.setIfInBounds_toArray, List.set_cons_zero, List.set_cons_succ, i64_w, i32_w]
                   rfl
                  refine pure_ (i := 3) (N := some 72) (v := ?_) (a' := ?_) #[true, true, true, true, false, false, false, false, false, false, false, false, false, false] rfl rfl (any_of HT_.out (by kernel_rfl)) (fun _ _ _ h => h) (Or.inl ⟨by rfl, ?_⟩) ?_ ?_
                  rotate_left
                  ·intro w'
                   go_simp
                   with_reducible rfl
                  rotate_left
                  ·simp only [Act.put, List.setIfInBounds_toArray, List.set_cons_zero, List.set_cons_succ, i64_w, i32_w]
                   rfl
                  refine pure_ (i := 4) (N := some 73) (v := ?_) (a' := ?_) #[true, true, true, true, true, false, false, false, false, false, false, false, false, false] rfl rfl (any_of HT_.out (by kernel_rfl)) (fun _ _ _ h => h) (Or.inl ⟨by rfl, ?_⟩) ?_ ?_
                  rotate_left
                  ·intro w'
                   go_simp
                   with_reducible rfl
                  rotate_left
                  ·simp only [Act.put, List.setIfInBounds_toArray, List.set_cons_zero, List.set_cons_succ, i64_w, i32_w]
                   rfl
                  refine pure_ (i := 5) (N := some 74) (v := ?_) (a' := ?_) #[true, true, true, true, true, true, false, false, false, false, false, false, false, false] rfl rfl (any_of HT_.out (by kernel_rfl)) (fun _ _ _ h => h) (Or.inl ⟨by rfl, ?_⟩) ?_ ?_
                  rotate_left
                  ·intro w'
                   go_simp
                   with_reducible rfl
                  rotate_left
                  ·simp only [Act.put, List.setIfInBounds_toArray, List.set_cons_zero, List.set_cons_succ, i64_w, i32_w]
                   rfl
                  refine pure_ (i := 6) (N := some 75) (v := ?_) (a' := ?_) #[true, true, true, true, true, true, true, false, false, false, false, false, false, false] rfl rfl (any_of HT_.out (by kernel_rfl)) (fun _ _ _ h => h) (Or.inl ⟨by rfl, ?_⟩) ?_ ?_
                  rotate_left
                  ·intro w'
                   go_simp
                   with_reducible rfl
                  rotate_left
                  ·simp only [Act.put, List.setIfInBounds_toArray, List.set_cons_zero, List.set_cons_succ, i64_w, i32_w]
                   rfl
                  refine pure_ (i := 8) (N := some 77) (v := ?_) (a' := ?_) #[true, true, true, true, true, true, true, false, true, false, false, false, false, false] rfl rfl (any_of HT_.out (by kernel_rfl)) (fun _ _ _ h => h) (Or.inl ⟨by rfl, ?_⟩) ?_ ?_
                  rotate_left
                  ·intro w'
                   go_simp
                   with_reducible rfl
                  rotate_left
                  ·simp only [Act.put, List.setIfInBounds_toArray, List.set_cons_zero, List.set_cons_succ, i64_w, i32_w]
                   rfl
                  refine pure_ (i := 9) (N := some 78) (v := ?_) (a' := ?_) #[true, true, true, true, true, true, true, false, true, true, false, false, false, false] rfl rfl (any_of HT_.out (by kernel_rfl)) (fun _ _ _ h => h) (Or.inl ⟨by rfl, ?_⟩) ?_ ?_
                  rotate_left
                  ·intro w'
                   go_simp
                   with_reducible rfl
                  rotate_left
                  ·simp only [Act.put, List.setIfInBounds_toArray, List.set_cons_zero, List.set_cons_succ, i64_w, i32_w]
                   rfl
                  refine pure_ (i := 10) (N := some 79) (v := ?_) (a' := ?_) #[true, true, true, true, true, true, true, false, true, true, true, false, false, false] rfl rfl (any_of HT_.out (by kernel_rfl)) (fun _ _ _ h => h) (Or.inl ⟨by rfl, ?_⟩) ?_ ?_
                  rotate_left
                  ·intro w'
                   go_simp
                   with_reducible rfl
                  rotate_left
                  ·simp only [Act.put, List.setIfInBounds_toArray, List.set_cons_zero, List.set_cons_succ, i64_w, i32_w]
                   rfl
                  refine take_ (i := 7) (N := some 76) (v := ?_) (a' := ?_) #[true, true, true, true, true, true, true, true, true, true, true, false, false, false] rfl rfl (take_ofW HT_.out HW_.out (by kernel_rfl)) (fun _ _ _ h => h) (Or.inl ⟨by rfl, ?_⟩) hHeld ?_ ?_
                  rotate_left
                  ·rintro w' ⟨s0, s1, s2⟩
                   go_simp
                   with_reducible rfl
                  rotate_left
                  ·simp only [Act.put, List.setIfInBounds_toArray, List.set_cons_zero, List.set_cons_succ, i64_w, i32_w]
                   rfl
                  refine take_ (i := 11) (N := some 80) (v := ?_) (a' := ?_) #[true, true, true, true, true, true, true, true, true, true, true, true, false, false] rfl rfl (take_ofW HT_.out HW_.out (by kernel_rfl)) (fun _ _ _ h => h) (Or.inl ⟨by rfl, ?_⟩) hHeld ?_ ?_
                  rotate_left
                  ·rintro w' ⟨s0, s1, s2⟩
                   go_simp
                   with_reducible rfl
                  rotate_left
                  ·simp only [Act.put, List.setIfInBounds_toArray, List.set_cons_zero, List.set_cons_succ, i64_w, i32_w]
                   rfl
                  refine pure_ (i := 12) (N := some 81) (v := ?_) (a' := ?_) #[true, true, true, true, true, true, true, true, true, true, true, true, true, false] rfl rfl (any_of HT_.out (by kernel_rfl)) (fun _ _ _ h => h) (Or.inl ⟨by rfl, ?_⟩) ?_ ?_
                  rotate_left
                  ·intro w'
                   go_simp
                   with_reducible rfl
                  rotate_left
                  ·simp only [Act.put, List.setIfInBounds_toArray, List.set_cons_zero, List.set_cons_succ, i64_w, i32_w]
                   rfl
                  refine pure_ (i := 13) (N := some 82) (v := ?_) (a' := ?_) #[true, true, true, true, true, true, true, true, true, true, true, true, true, true] rfl rfl (any_of HT_.out (by kernel_rfl)) (fun _ _ _ h => h) (Or.inl ⟨by rfl, ?_⟩) ?_ ?_
                  rotate_left
                  ·intro w'
                   go_simp
                   with_reducible rfl
                  rotate_left
                  ·simp only [Act.put, List.setIfInBounds_toArray, List.set_cons_zero, List.set_cons_succ, i64_w, i32_w]
                   rfl
                  refine done_ (done_of HT_.out (by kernel_rfl)) ?_
                  try go_wp2
                  have n0_ := Aside0.mk (Kd.R_drew HO_7.out)
                  have n1_ := Aside0.mk (Kd.R_drew HO_8.out)
                  have n2_ := Aside0.mk (below_drew1 HB.out)
                  clear HO_7
                  clear HO_8
                  clear HB
                  have HO_7 := n0_
                  have HO_8 := n1_
                  have HB := n2_
                  clear n0_ n1_ n2_
                  have p277 : 0 ≤ (x9_1 : Int) := of_decide_eq_true (by first | (with_reducible assumption) | assumption)
                  have q277 : x9_1 < (t266.length : Int) := of_decide_eq_true (by first | (with_reducible assumption) | assumption)
                  obtain ⟨ad277, e277, hx277_0⟩ := Kd.at_int (Kd.R_reads' HO_8.out).2.2 x9_1 p277 q277
                  obtain rfl : ad269 = ad277 := (by injection e277)
                  replace p277 := eq_true p277
                  replace q277 := eq_true q277
                  have p278 : 0 ≤ ((ji45) : Int) := of_decide_eq_true (by first | (with_reducible assumption) | assumption)
                  have q278 : (ji45) < (t266.length : Int) := of_decide_eq_true (by first | (with_reducible assumption) | assumption)
                  obtain ⟨ad278, e278, hx278_0⟩ := Kd.at_int (Kd.R_reads' HO_8.out).2.2 (ji45) p278 q278
                  obtain rfl : ad269 = ad278 := (by injection e278)
                  replace p278 := eq_true p278
                  replace q278 := eq_true q278
                  refine start_ (n := 14) (S := fun w' => w'.cell? (ad269.add (x9_1).toNat) = some (.int .i64 (rd t266 x9_1)) ∧ w'.cell? (ad269.add ((ji45)).toNat) = some (.int .i64 (rd t266 (ji45)))) (ds := [11, 12]) #[false, false, false, false, false, false, false, false, false, false, false, false, false, false] (by kernel_rfl) rfl rfl ⟨hx277_0, hx278_0⟩ (fun hHeld => ?_); refine with_tabW r11_choose.tab10 r11_choose.bits10 (fun HT_ HW_ => ?_)
                  generalize w50.drew = w51 at HO_7 HO_8 HB hx277_0 hx278_0 hHeld ⊢
                  refine pure_ (i := 0) (N := some 92) (v := ?_) (a' := ?_) #[true, false, false, false, false, false, false, false, false, false, false, false, false, false] rfl rfl (any_of HT_.out (by kernel_rfl)) (fun _ _ _ h => h) (Or.inl ⟨by rfl, ?_⟩) ?_ ?_
                  rotate_left
                  ·intro w'
                   go_simp
                   with_reducible rfl
                  rotate_left
                  ·simp only [Act.put, List.setIfInBounds_toArray, List.set_cons_zero, List.set_cons_succ, i64_w, i32_w]
                   rfl
                  refine pure_ (i := 1) (N := some 93) (v := ?_) (a' := ?_) #[true, true, false, false, false, false, false, false, false, false, false, false, false, false] rfl rfl (any_of HT_.out (by kernel_rfl)) (fun _ _ _ h => h) (Or.inl ⟨by rfl, ?_⟩) ?_ ?_
                  rotate_left
                  ·intro w'
                   go_simp
                   with_reducible rfl
                  rotate_left
                  ·simp only [Act.put, List.setIfInBounds_toArray, List.set_cons_zero, List.set_cons_succ, i64_w, i32_w]
                   rfl
                  refine pure_ (i := 2) (N := some 94) (v := ?_) (a' := ?_) #[true, true, true, false, false, false, false, false, false, false, false, false, false, false] rfl rfl (any_of HT_.out (by kernel_rfl)) (fun _ _ _ h => h) (Or.inl ⟨by rfl, ?_⟩) ?_ ?_
                  rotate_left
                  ·intro w'
                   go_simp
                   with_reducible rfl
                  rotate_left
                  ·simp only [Act.put, List.setIfInBounds_toArray, List.set_cons_zero, List.set_cons_succ, i64_w, i32_w]
                   rfl
                  refine pure_ (i := 3) (N := some 95) (v := ?_) (a' := ?_) #[true, true, true, true, false, false, false, false, false, false, false, false, false, false] rfl rfl (any_of HT_.out (by kernel_rfl)) (fun _ _ _ h => h) (Or.inl ⟨by rfl, ?_⟩) ?_ ?_
                  rotate_left
                  ·intro w'
                   go_simp
                   with_reducible rfl
                  rotate_left
                  ·simp only [Act.put, List.setIfInBounds_toArray, List.set_cons_zero, List.set_cons_succ, i64_w, i32_w]
                   rfl
                  refine pure_ (i := 5) (N := some 97) (v := ?_) (a' := ?_) #[true, true, true, true, false, true, false, false, false, false, false, false, false, false] rfl rfl (any_of HT_.out (by kernel_rfl)) (fun _ _ _ h => h) (Or.inl ⟨by rfl, ?_⟩) ?_ ?_
                  rotate_left
                  ·intro w'
                   go_simp
                   with_reducible rfl
                  rotate_left
                  ·simp only [Act.put, List.setIfInBounds_toArray, List.set_cons_zero, List.set_cons_succ, i64_w, i32_w]
                   rfl
                  refine pure_ (i := 6) (N := some 98) (v := ?_) (a' := ?_) #[true, true, true, true, false, true, true, false, false, false, false, false, false, false] rfl rfl (any_of HT_.out (by kernel_rfl)) (fun _ _ _ h => h) (Or.inl ⟨by rfl, ?_⟩) ?_ ?_
                  rotate_left
                  ·intro w'
                   go_simp
                   with_reducible rfl
                  rotate_left
                  ·simp only [Act.put, List.setIfInBounds_toArray, List.set_cons_zero, List.set_cons_succ, i64_w, i32_w]
                   rfl
                  refine pure_ (i := 7) (N := some 99) (v := ?_) (a' := ?_) #[true, true, true, true, false, true, true, true, false, false, false, false, false, false] rfl rfl (any_of HT_.out (by kernel_rfl)) (fun _ _ _ h => h) (Or.inl ⟨by rfl, ?_⟩) ?_ ?_
                  rotate_left
                  ·intro w'
                   go_simp
                   with_reducible rfl
                  rotate_left
                  ·simp only [Act.put, List.setIfInBounds_toArray, List.set_cons_zero, List.set_cons_succ, i64_w, i32_w]
                   rfl
                  refine pure_ (i := 8) (N := some 100) (v := ?_) (a' := ?_) #[true, true, true, true, false, true, true, true, true, false, false, false, false, false] rfl rfl (any_of HT_.out (by kernel_rfl)) (fun _ _ _ h => h) (Or.inl ⟨by rfl, ?_⟩) ?_ ?_
                  rotate_left
                  ·intro w'
                   go_simp
                   with_reducible rfl
                  rotate_left
                  ·simp only [Act.put, List.setIfInBounds_toArray, List.set_cons_zero, List.set_cons_succ, i64_w, i32_w]
                   rfl
                  refine take_ (i := 4) (N := some 96) (v := ?_) (a' := ?_) #[true, true, true, true, true, true, true, true, true, false, false, false, false, false] rfl rfl (take_ofW HT_.out HW_.out (by kernel_rfl)) (fun _ _ _ h => h) (Or.inl ⟨by rfl, ?_⟩) hHeld ?_ ?_
                  rotate_left
                  ·rintro w' ⟨s0, s1⟩
                   go_simp
                   with_reducible rfl
                  rotate_left
                  ·simp only [Act.put, List.setIfInBounds_toArray, List.set_cons_zero, List.set_cons_succ, i64_w, i32_w]
                   rfl
                  refine take_ (i := 9) (N := some 101) (v := ?_) (a' := ?_) #[true, true, true, true, true, true, true, true, true, true, false, false, false, false] rfl rfl (take_ofW HT_.out HW_.out (by kernel_rfl)) (fun _ _ _ h => h) (Or.inl ⟨by rfl, ?_⟩) hHeld ?_ ?_
                  rotate_left
                  ·rintro w' ⟨s0, s1⟩
                   go_simp
                   with_reducible rfl
                  rotate_left
                  ·simp only [Act.put, List.setIfInBounds_toArray, List.set_cons_zero, List.set_cons_succ, i64_w, i32_w]
                   rfl
                  refine pure_ (i := 10) (N := some 102) (v := ?_) (a' := ?_) #[true, true, true, true, true, true, true, true, true, true, true, false, false, false] rfl rfl (any_of HT_.out (by kernel_rfl)) (fun _ _ _ h => h) (Or.inl ⟨by rfl, ?_⟩) ?_ ?_
                  rotate_left
                  ·intro w'
                   go_simp
                   with_reducible rfl
                  rotate_left
                  ·simp only [Act.put, List.setIfInBounds_toArray, List.set_cons_zero, List.set_cons_succ, i64_w, i32_w]
                   rfl
                  refine last_ (i := 11) (N := some 103) #[true, true, true, true, true, true, true, true, true, true, true, true, false, false] rfl rfl (one_of HT_.out (by kernel_rfl)) (by decide) (fun K hK => ?_)
                  refine value_ (w1 := ?_) (v := ?_) (by rfl) rfl ?_ ?_
                  rotate_left 2
                  ·go_simp
                   constructor
                   ·rfl
                   ·rfl
                  refine hK.out _ _ ?_
                  clear hK K
                  refine norm_ (a' := ?_) ?_ ?_
                  rotate_left
                  ·show Act.put _ (some 103) _ = _
                   simp only [Act.put, List.setIfInBounds_toArray, List.set_cons_zero, List.set_cons_succ, i64_w, i32_w]
                   rfl
                  refine last_ (i := 12) (N := some 104) #[true, true, true, true, true, true, true, true, true, true, true, true, true, false] rfl rfl (one_of HT_.out (by kernel_rfl)) (by decide) (fun K hK => ?_)
                  refine Kd.R_append_step k24 (w0 := w) w.heap.size (by rfl) (.tmp 92) (.tmp 103) 22 24 (.agg #[(.int .i64 0), (.int .i64 0)]) 16 rfl Try.underlying22 info24 rfl (by decide) (by omega) (.slice (some ad273) x7_1.length co49) x7_1 (⟨rd t266 x9_1, rd t266 (ji45)⟩ : S24) [.int .i64 (rd t266 x9_1), .int .i64 (rd t266 (ji45))] (fun _ => True) (fun _ => False) rfl rfl ?aP (fun _ hk => hk.elim) ?aF ?aO ?aB ?aS ?aL ?_
                  (case aP => exact k24_mkM _ _ _ (⟨rd t266 x9_1, rd t266 (ji45)⟩ : S24))
                  (case aB => exact (bZ HB.out))
                  (case aF => exact (fun _ _ => trivial))
                  (case aO => exact (rZ HO_7.out))
                  (case aS => exact (below_size (bZ HB.out)))
                  (case aL => have := LMc48.out; omega)
                  intro v280 w52 ho hb hg hat
                  rw [← Ny279.out] at ho
                  have n0_ := Aside0.mk (Kd.R_over' (rZ HO_8.out) (Kd.R_typed (rZ HO_7.out)) (by decide) hg)
                  have n1_ := Aside0.mk (hb)
                  have n2_ := Aside0.mk (ho)
                  clear HO_8
                  clear HB
                  clear HO_7
                  have HO_8 := n0_
                  have HB := n1_
                  have HO281 := n2_
                  clear n0_ n1_ n2_
                  clear ho hb hg hat
                  refine hK.out _ _ ?_
                  clear hK K
                  refine norm_ (a' := ?_) ?_ ?_
                  rotate_left
                  ·show Act.put _ (some 104) _ = _
                   simp only [Act.put, List.setIfInBounds_toArray, List.set_cons_zero, List.set_cons_succ, i64_w, i32_w]
                   rfl
                  refine pure_ (i := 13) (N := some 7) (v := ?_) (a' := ?_) #[true, true, true, true, true, true, true, true, true, true, true, true, true, true] rfl rfl (any_of HT_.out (by kernel_rfl)) (fun _ _ _ h => h) (Or.inl ⟨by rfl, ?_⟩) ?_ ?_
                  rotate_left
                  ·intro w'
                   go_simp
                   with_reducible rfl
                  rotate_left
                  ·simp only [Act.put, List.setIfInBounds_toArray, List.set_cons_zero, List.set_cons_succ, i64_w, i32_w]
                   rfl
                  refine done_ (done_of HT_.out (by kernel_rfl)) ?_
                  try go_wp2
                  go_roundg kj12
                  case measure => have := HK1.out; have := HJ12.out; omega
                  case rel => exact ⟨(y279), (ji45), (by first | rfl | (simp; done) | (simp only [← hji45] <;> (first | rfl | simp)) | (simp [*]; done)), H', ⟨by have := HK1.out; have := HJ12.out; omega⟩, ⟨by (with_reducible repeat (first | apply Kd.R_alloc | apply Kd.R_drewN | apply Kd.R_drew)); exact HO281.out⟩, ⟨by (with_reducible repeat (first | apply Kd.R_alloc | apply Kd.R_drewN | apply Kd.R_drew)); exact HO_8.out⟩, ⟨by repeat (first | (with_reducible first | exact HB.out | apply below_alloc | apply pw_below_drewN | apply below_drew1) | exact HB.out)⟩⟩
                 ·rw [if_neg c48] at H
                  exact absurd H (by simp)
                ·rw [if_neg c47] at H
                 exact absurd H (by simp)
               ·rw [if_neg c46] at H
                exact absurd H (by simp)
             ·rw [if_neg c35] at H
              exact absurd H (by simp)
            ·rw [if_neg c34] at H
             exact absurd H (by simp)
           ·rw [if_neg c33] at H
            exact absurd H (by simp)
          ·rw [if_neg c32] at H
           exact absurd H (by simp)
         ·rw [if_neg c30] at H
          have c30b0 : decide (0 ≤ (wrap64 ((x7_1.length : Int) - 1))) = false := decide_eq_false c30
          clear c30
          by_cases c53 : 0 ≤ x9_1
          ·rw [if_pos c53] at H
           have c53b0 : decide (0 ≤ x9_1) = true := decide_eq_true c53
           clear c53
           by_cases c54 : x9_1 < (t266.length : Int)
           ·rw [if_pos c54] at H
            have c54b0 : decide (x9_1 < (t266.length : Int)) = true := decide_eq_true c54
            clear c54
            obtain ⟨ji55, hji55⟩ : ∃ j_ : Int, (wrap64 (x9_1 + 1)) = j_ := ⟨_, rfl⟩
            replace H : (if 0 ≤ (ji55) then (if (ji55) < (t266.length : Int) then (if x7_1.length < 8796093022208 then (r11_choose.l0 kj12 l0 l1 a2 (x7_1 ++ [(⟨rd t266 x9_1, rd t266 (ji55)⟩ : S24)]) t266 ji55) else (none)) else (none)) else (none)) = some r := by first | (rw [hji55] at H; exact H) | (simp only [hji55] at H ⊢; exact H)
            (try rw [hji55] at c8b0)
            have hji55w : (IntKind.i64.wrap (x9_1 + 1)) = ji55 := (i64_w _).trans hji55
            by_cases c56 : 0 ≤ (ji55)
            ·rw [if_pos c56] at H
             have c56b0 : decide (0 ≤ (ji55)) = true := decide_eq_true c56
             clear c56
             by_cases c57 : (ji55) < (t266.length : Int)
             ·rw [if_pos c57] at H
              have c57b0 : decide ((ji55) < (t266.length : Int)) = true := decide_eq_true c57
              clear c57
              by_cases c58 : x7_1.length < 8796093022208
              ·rw [if_pos c58] at H
               have LMc58 := Aside0.mk c58
               clear c58
               obtain ⟨y284, hy284⟩ : ∃ y_ : List (S24), y_ = (x7_1 ++ [(⟨rd t266 x9_1, rd t266 (ji55)⟩ : S24)]) := ⟨_, rfl⟩
               replace H : (r11_choose.l0 kj12 l0 l1 a2 y284 t266 ji55) = some r := by first | (rw [hy284]; with_reducible exact H) | (have H2_ := (Option.bind_some _ _).symm.trans H; rw [hy284]; with_reducible exact H2_) | (have H2_ := (Option.bind_some _ _).symm.trans H; with_reducible exact H2_) | with_reducible exact H | (rw [hy284]; exact H) | exact H
               have Ny284 := Aside0.mk hy284
               clear hy284
               have H' := Aside0.mk H
               clear H
               obtain ⟨Ao59, co59, eo59⟩ := Kd.R_slice HO_7.out
               subst eo59
               try go_wp2
               have n0_ := Aside0.mk (Kd.R_drew HO_7.out)
               have n1_ := Aside0.mk (Kd.R_drew HO_8.out)
               have n2_ := Aside0.mk (below_drew1 HB.out)
               clear HO_7
               clear HO_8
               clear HB
               have HO_7 := n0_
               have HO_8 := n1_
               have HB := n2_
               clear n0_ n1_ n2_
               refine start_ (n := 14) (S := fun w' => True) (ds := []) #[false, false, false, false, false, false, false, false, false, false, false, false, false, false] (by kernel_rfl) rfl rfl trivial (fun hHeld => ?_); refine with_tabW r11_choose.tab8 r11_choose.bits8 (fun HT_ HW_ => ?_)
               generalize wc.drew = w60 at HO_7 HO_8 HB hHeld ⊢
               refine pure_ (i := 0) (N := some 69) (v := ?_) (a' := ?_) #[true, false, false, false, false, false, false, false, false, false, false, false, false, false] rfl rfl (any_of HT_.out (by kernel_rfl)) (fun _ _ _ h => h) (Or.inl ⟨by rfl, ?_⟩) ?_ ?_
               rotate_left
               ·intro w'
                go_simp
                with_reducible rfl
               rotate_left
               ·simp only [Act.put, List.setIfInBounds_toArray, List.set_cons_zero, List.set_cons_succ, i64_w, i32_w]
                rfl
               refine pure_ (i := 1) (N := some 70) (v := ?_) (a' := ?_) #[true, true, false, false, false, false, false, false, false, false, false, false, false, false] rfl rfl (any_of HT_.out (by kernel_rfl)) (fun _ _ _ h => h) (Or.inl ⟨by rfl, ?_⟩) ?_ ?_
               rotate_left
               ·intro w'
                go_simp
                with_reducible rfl
               rotate_left
               ·simp only [Act.put, List.setIfInBounds_toArray, List.set_cons_zero, List.set_cons_succ, i64_w, i32_w]
                rfl
               refine pure_ (i := 2) (N := some 71) (v := ?_) (a' := ?_) #[true, true, true, false, false, false, false, false, false, false, false, false, false, false] rfl rfl (any_of HT_.out (by kernel_rfl)) (fun _ _ _ h => h) (Or.inl ⟨by rfl, ?_⟩) ?_ ?_
               rotate_left
               ·intro w'
                go_simp
                with_reducible rfl
               rotate_left
               ·simp only [Act.put, List.setIfInBounds_toArray, List.set_cons_zero, List.set_cons_succ, i64_w, i32_w]
                rfl
               refine pure_ (i := 3) (N := some 72) (v := undef) (a' := ?_) #[true, true, true, true, false, false, false, false, false, false, false, false, false, false] rfl rfl (any_of HT_.out (by kernel_rfl)) (fun _ _ _ h => h) (Or.inr ⟨by rfl, rfl⟩) ?_ ?_
               rotate_left
               ·simp only [Act.put, List.setIfInBounds_toArray, List.set_cons_zero, List.set_cons_succ, i64_w, i32_w]
                rfl
               refine pure_ (i := 4) (N := some 73) (v := undef) (a' := ?_) #[true, true, true, true, true, false, false, false, false, false, false, false, false, false] rfl rfl (any_of HT_.out (by kernel_rfl)) (fun _ _ _ h => h) (Or.inr ⟨by rfl, rfl⟩) ?_ ?_
               rotate_left
               ·simp only [Act.put, List.setIfInBounds_toArray, List.set_cons_zero, List.set_cons_succ, i64_w, i32_w]
                rfl
               refine pure_ (i := 5) (N := some 74) (v := undef) (a' := ?_) #[true, true, true, true, true, true, false, false, false, false, false, false, false, false] rfl rfl (any_of HT_.out (by kernel_rfl)) (fun _ _ _ h => h) (Or.inr ⟨by rfl, rfl⟩) ?_ ?_
               rotate_left
               ·simp only [Act.put, List.setIfInBounds_toArray, List.set_cons_zero, List.set_cons_succ, i64_w, i32_w]
                rfl
               refine pure_ (i := 6) (N := some 75) (v := undef) (a' := ?_) #[true, true, true, true, true, true, true, false, false, false, false, false, false, false] rfl rfl (any_of HT_.out (by kernel_rfl)) (fun _ _ _ h => h) (Or.inr ⟨by rfl, rfl⟩) ?_ ?_
               rotate_left
               ·simp only [Act.put, List.setIfInBounds_toArray, List.set_cons_zero, List.set_cons_succ, i64_w, i32_w]
                rfl
               refine pure_ (i := 7) (N := some 76) (v := undef) (a' := ?_) #[true, true, true, true, true, true, true, true, false, false, false, false, false, false] rfl rfl (any_of HT_.out (by kernel_rfl)) (fun _ _ _ h => h) (Or.inr ⟨by rfl, rfl⟩) ?_ ?_
               rotate_left
               ·simp only [Act.put, List.setIfInBounds_toArray, List.set_cons_zero, List.set_cons_succ, i64_w, i32_w]
                rfl
               refine pure_ (i := 8) (N := some 77) (v := undef) (a' := ?_) #[true, true, true, true, true, true, true, true, true, false, false, false, false, false] rfl rfl (any_of HT_.out (by kernel_rfl)) (fun _ _ _ h => h) (Or.inr ⟨by rfl, rfl⟩) ?_ ?_
               rotate_left
               ·simp only [Act.put, List.setIfInBounds_toArray, List.set_cons_zero, List.set_cons_succ, i64_w, i32_w]
                rfl
               refine pure_ (i := 9) (N := some 78) (v := undef) (a' := ?_) #[true, true, true, true, true, true, true, true, true, true, false, false, false, false] rfl rfl (any_of HT_.out (by kernel_rfl)) (fun _ _ _ h => h) (Or.inr ⟨by rfl, rfl⟩) ?_ ?_
               rotate_left
               ·simp only [Act.put, List.setIfInBounds_toArray, List.set_cons_zero, List.set_cons_succ, i64_w, i32_w]
                rfl
               refine pure_ (i := 10) (N := some 79) (v := undef) (a' := ?_) #[true, true, true, true, true, true, true, true, true, true, true, false, false, false] rfl rfl (any_of HT_.out (by kernel_rfl)) (fun _ _ _ h => h) (Or.inr ⟨by rfl, rfl⟩) ?_ ?_
               rotate_left
               ·simp only [Act.put, List.setIfInBounds_toArray, List.set_cons_zero, List.set_cons_succ, i64_w, i32_w]
                rfl
               refine pure_ (i := 11) (N := some 80) (v := undef) (a' := ?_) #[true, true, true, true, true, true, true, true, true, true, true, true, false, false] rfl rfl (any_of HT_.out (by kernel_rfl)) (fun _ _ _ h => h) (Or.inr ⟨by rfl, rfl⟩) ?_ ?_
               rotate_left
               ·simp only [Act.put, List.setIfInBounds_toArray, List.set_cons_zero, List.set_cons_succ, i64_w, i32_w]
                rfl
               refine pure_ (i := 12) (N := some 81) (v := undef) (a' := ?_) #[true, true, true, true, true, true, true, true, true, true, true, true, true, false] rfl rfl (any_of HT_.out (by kernel_rfl)) (fun _ _ _ h => h) (Or.inr ⟨by rfl, rfl⟩) ?_ ?_
               rotate_left
               ·simp only [Act.put, List.setIfInBounds_toArray, List.set_cons_zero, List.set_cons_succ, i64_w, i32_w]
                rfl
               refine pure_ (i := 13) (N := some 82) (v := ?_) (a' := ?_) #[true, true, true, true, true, true, true, true, true, true, true, true, true, true] rfl rfl (any_of HT_.out (by kernel_rfl)) (fun _ _ _ h => h) (Or.inl ⟨by rfl, ?_⟩) ?_ ?_
               rotate_left
               ·intro w'
                go_simp
                with_reducible rfl
               rotate_left
               ·simp only [Act.put, List.setIfInBounds_toArray, List.set_cons_zero, List.set_cons_succ, i64_w, i32_w]
                rfl
               refine done_ (done_of HT_.out (by kernel_rfl)) ?_
               try go_wp2
               have n0_ := Aside0.mk (Kd.R_drew HO_7.out)
               have n1_ := Aside0.mk (Kd.R_drew HO_8.out)
               have n2_ := Aside0.mk (below_drew1 HB.out)
               clear HO_7
               clear HO_8
               clear HB
               have HO_7 := n0_
               have HO_8 := n1_
               have HB := n2_
               clear n0_ n1_ n2_
               have p282 : 0 ≤ (x9_1 : Int) := of_decide_eq_true (by first | (with_reducible assumption) | assumption)
               have q282 : x9_1 < (t266.length : Int) := of_decide_eq_true (by first | (with_reducible assumption) | assumption)
               obtain ⟨ad282, e282, hx282_0⟩ := Kd.at_int (Kd.R_reads' HO_8.out).2.2 x9_1 p282 q282
               obtain rfl : ad269 = ad282 := (by injection e282)
               replace p282 := eq_true p282
               replace q282 := eq_true q282
               have p283 : 0 ≤ ((ji55) : Int) := of_decide_eq_true (by first | (with_reducible assumption) | assumption)
               have q283 : (ji55) < (t266.length : Int) := of_decide_eq_true (by first | (with_reducible assumption) | assumption)
               obtain ⟨ad283, e283, hx283_0⟩ := Kd.at_int (Kd.R_reads' HO_8.out).2.2 (ji55) p283 q283
               obtain rfl : ad269 = ad283 := (by injection e283)
               replace p283 := eq_true p283
               replace q283 := eq_true q283
               refine start_ (n := 14) (S := fun w' => w'.cell? (ad269.add (x9_1).toNat) = some (.int .i64 (rd t266 x9_1)) ∧ w'.cell? (ad269.add ((ji55)).toNat) = some (.int .i64 (rd t266 (ji55)))) (ds := [11, 12]) #[false, false, false, false, false, false, false, false, false, false, false, false, false, false] (by kernel_rfl) rfl rfl ⟨hx282_0, hx283_0⟩ (fun hHeld => ?_); refine with_tabW r11_choose.tab10 r11_choose.bits10 (fun HT_ HW_ => ?_)
               generalize w60.drew = w61 at HO_7 HO_8 HB hx282_0 hx283_0 hHeld ⊢
               refine pure_ (i := 0) (N := some 92) (v := ?_) (a' := ?_) #[true, false, false, false, false, false, false, false, false, false, false, false, false, false] rfl rfl (any_of HT_.out (by kernel_rfl)) (fun _ _ _ h => h) (Or.inl ⟨by rfl, ?_⟩) ?_ ?_
               rotate_left
               ·intro w'
                go_simp
                with_reducible rfl
               rotate_left
               ·simp only [Act.put, List.setIfInBounds_toArray, List.set_cons_zero, List.set_cons_succ, i64_w, i32_w]
                rfl
               refine pure_ (i := 1) (N := some 93) (v := ?_) (a' := ?_) #[true, true, false, false, false, false, false, false, false, false, false, false, false, false] rfl rfl (any_of HT_.out (by kernel_rfl)) (fun _ _ _ h => h) (Or.inl ⟨by rfl, ?_⟩) ?_ ?_
               rotate_left
               ·intro w'
                go_simp
                with_reducible rfl
               rotate_left
               ·simp only [Act.put, List.setIfInBounds_toArray, List.set_cons_zero, List.set_cons_succ, i64_w, i32_w]
                rfl
               refine pure_ (i := 2) (N := some 94) (v := ?_) (a' := ?_) #[true, true, true, false, false, false, false, false, false, false, false, false, false, false] rfl rfl (any_of HT_.out (by kernel_rfl)) (fun _ _ _ h => h) (Or.inl ⟨by rfl, ?_⟩) ?_ ?_
               rotate_left
               ·intro w'
                go_simp
                with_reducible rfl
               rotate_left
               ·simp only [Act.put, List.setIfInBounds_toArray, List.set_cons_zero, List.set_cons_succ, i64_w, i32_w]
                rfl
               refine pure_ (i := 3) (N := some 95) (v := ?_) (a' := ?_) #[true, true, true, true, false, false, false, false, false, false, false, false, false, false] rfl rfl (any_of HT_.out (by kernel_rfl)) (fun _ _ _ h => h) (Or.inl ⟨by rfl, ?_⟩) ?_ ?_
               rotate_left
               ·intro w'
                go_simp
                with_reducible rfl
               rotate_left
               ·simp only [Act.put, List.setIfInBounds_toArray, List.set_cons_zero, List.set_cons_succ, i64_w, i32_w]
                rfl
               refine pure_ (i := 5) (N := some 97) (v := ?_) (a' := ?_) #[true, true, true, true, false, true, false, false, false, false, false, false, false, false] rfl rfl (any_of HT_.out (by kernel_rfl)) (fun _ _ _ h => h) (Or.inl ⟨by rfl, ?_⟩) ?_ ?_
               rotate_left
               ·intro w'
                go_simp
                with_reducible rfl
               rotate_left
               ·simp only [Act.put, List.setIfInBounds_toArray, List.set_cons_zero, List.set_cons_succ, i64_w, i32_w]
                rfl
               refine pure_ (i := 6) (N := some 98) (v := ?_) (a' := ?_) #[true, true, true, true, false, true, true, false, false, false, false, false, false, false] rfl rfl (any_of HT_.out (by kernel_rfl)) (fun _ _ _ h => h) (Or.inl ⟨by rfl, ?_⟩) ?_ ?_
               rotate_left
               ·intro w'
                go_simp
                with_reducible rfl
               rotate_left
               ·simp only [Act.put, List.setIfInBounds_toArray, List.set_cons_zero, List.set_cons_succ, i64_w, i32_w]
                rfl
               refine pure_ (i := 7) (N := some 99) (v := ?_) (a' := ?_) #[true, true, true, true, false, true, true, true, false, false, false, false, false, false] rfl rfl (any_of HT_.out (by kernel_rfl)) (fun _ _ _ h => h) (Or.inl ⟨by rfl, ?_⟩) ?_ ?_
               rotate_left
               ·intro w'
                go_simp
                with_reducible rfl
               rotate_left
               ·simp only [Act.put, List.setIfInBounds_toArray, List.set_cons_zero, List.set_cons_succ, i64_w, i32_w]
                rfl
               refine pure_ (i := 8) (N := some 100) (v := ?_) (a' := ?_) #[true, true, true, true, false, true, true, true, true, false, false, false, false, false] rfl rfl (any_of HT_.out (by kernel_rfl)) (fun _ _ _ h => h) (Or.inl ⟨by rfl, ?_⟩) ?_ ?_
               rotate_left
               ·intro w'
                go_simp
                with_reducible rfl
               rotate_left
               ·simp only [Act.put, List.setIfInBounds_toArray, List.set_cons_zero, List.set_cons_succ, i64_w, i32_w]
                rfl
               refine take_ (i := 4) (N := some 96) (v := ?_) (a' := ?_) #[true, true, true, true, true, true, true, true, true, false, false, false, false, false] rfl rfl (take_ofW HT_.out HW_.out (by kernel_rfl)) (fun _ _ _ h => h) (Or.inl ⟨by rfl, ?_⟩) hHeld ?_ ?_
               rotate_left
               ·rintro w' ⟨s0, s1⟩
                go_simp
                with_reducible rfl
               rotate_left
               ·simp only [Act.put, List.setIfInBounds_toArray, List.set_cons_zero, List.set_cons_succ, i64_w, i32_w]
                rfl
               refine take_ (i := 9) (N := some 101) (v := ?_) (a' := ?_) #[true, true, true, true, true, true, true, true, true, true, false, false, false, false] rfl rfl (take_ofW HT_.out HW_.out (by kernel_rfl)) (fun _ _ _ h => h) (Or.inl ⟨by rfl, ?_⟩) hHeld ?_ ?_
               rotate_left
               ·rintro w' ⟨s0, s1⟩
                go_simp
                with_reducible rfl
               rotate_left
               ·simp only [Act.put, List.setIfInBounds_toArray, List.set_cons_zero, List.set_cons_succ, i64_w, i32_w]
                rfl
               refine pure_ (i := 10) (N := some 102) (v := ?_) (a' := ?_) #[true, true, true, true, true, true, true, true, true, true, true, false, false, false] rfl rfl (any_of HT_.out (by kernel_rfl)) (fun _ _ _ h => h) (Or.inl ⟨by rfl, ?_⟩) ?_ ?_
               rotate_left
               ·intro w'
                go_simp
                with_reducible rfl
               rotate_left
               ·simp only [Act.put, List.setIfInBounds_toArray, List.set_cons_zero, List.set_cons_succ, i64_w, i32_w]
                rfl
               refine last_ (i := 11) (N := some 103) #[true, true, true, true, true, true, true, true, true, true, true, true, false, false] rfl rfl (one_of HT_.out (by kernel_rfl)) (by decide) (fun K hK => ?_)
               refine value_ (w1 := ?_) (v := ?_) (by rfl) rfl ?_ ?_
               rotate_left 2
               ·go_simp
                constructor
                ·rfl
                ·rfl
               refine hK.out _ _ ?_
               clear hK K
               refine norm_ (a' := ?_) ?_ ?_
               rotate_left
               ·show Act.put _ (some 103) _ = _
                simp only [Act.put, List.setIfInBounds_toArray, List.set_cons_zero, List.set_cons_succ, i64_w, i32_w]
                rfl
               refine last_ (i := 12) (N := some 104) #[true, true, true, true, true, true, true, true, true, true, true, true, true, false] rfl rfl (one_of HT_.out (by kernel_rfl)) (by decide) (fun K hK => ?_)
               refine Kd.R_append_step k24 (w0 := w) w.heap.size (by rfl) (.tmp 92) (.tmp 103) 22 24 (.agg #[(.int .i64 0), (.int .i64 0)]) 16 rfl Try.underlying22 info24 rfl (by decide) (by omega) (.slice Ao59 x7_1.length co59) x7_1 (⟨rd t266 x9_1, rd t266 (ji55)⟩ : S24) [.int .i64 (rd t266 x9_1), .int .i64 (rd t266 (ji55))] (fun _ => True) (fun _ => False) rfl rfl ?aP (fun _ hk => hk.elim) ?aF ?aO ?aB ?aS ?aL ?_
               (case aP => exact k24_mkM _ _ _ (⟨rd t266 x9_1, rd t266 (ji55)⟩ : S24))
               (case aB => exact (bZ HB.out))
               (case aF => exact (fun _ _ => trivial))
               (case aO => exact (rZ HO_7.out))
               (case aS => exact (below_size (bZ HB.out)))
               (case aL => have := LMc58.out; omega)
               intro v285 w62 ho hb hg hat
               rw [← Ny284.out] at ho
               have n0_ := Aside0.mk (Kd.R_over' (rZ HO_8.out) (Kd.R_typed (rZ HO_7.out)) (by decide) hg)
               have n1_ := Aside0.mk (hb)
               have n2_ := Aside0.mk (ho)
               clear HO_8
               clear HB
               clear HO_7
               have HO_8 := n0_
               have HB := n1_
               have HO286 := n2_
               clear n0_ n1_ n2_
               clear ho hb hg hat
               refine hK.out _ _ ?_
               clear hK K
               refine norm_ (a' := ?_) ?_ ?_
               rotate_left
               ·show Act.put _ (some 104) _ = _
                simp only [Act.put, List.setIfInBounds_toArray, List.set_cons_zero, List.set_cons_succ, i64_w, i32_w]
                rfl
               refine pure_ (i := 13) (N := some 7) (v := ?_) (a' := ?_) #[true, true, true, true, true, true, true, true, true, true, true, true, true, true] rfl rfl (any_of HT_.out (by kernel_rfl)) (fun _ _ _ h => h) (Or.inl ⟨by rfl, ?_⟩) ?_ ?_
               rotate_left
               ·intro w'
                go_simp
                with_reducible rfl
               rotate_left
               ·simp only [Act.put, List.setIfInBounds_toArray, List.set_cons_zero, List.set_cons_succ, i64_w, i32_w]
                rfl
               refine done_ (done_of HT_.out (by kernel_rfl)) ?_
               try go_wp2
               go_roundg kj12
               case measure => have := HK1.out; have := HJ12.out; omega
               case rel => exact ⟨(y284), (ji55), (by first | rfl | (simp; done) | (simp only [← hji55] <;> (first | rfl | simp)) | (simp [*]; done)), H', ⟨by have := HK1.out; have := HJ12.out; omega⟩, ⟨by (with_reducible repeat (first | apply Kd.R_alloc | apply Kd.R_drewN | apply Kd.R_drew)); exact HO286.out⟩, ⟨by (with_reducible repeat (first | apply Kd.R_alloc | apply Kd.R_drewN | apply Kd.R_drew)); exact HO_8.out⟩, ⟨by repeat (first | (with_reducible first | exact HB.out | apply below_alloc | apply pw_below_drewN | apply below_drew1) | exact HB.out)⟩⟩
              ·rw [if_neg c58] at H
               exact absurd H (by simp)
             ·rw [if_neg c57] at H
              exact absurd H (by simp)
            ·rw [if_neg c56] at H
             exact absurd H (by simp)
           ·rw [if_neg c54] at H
            exact absurd H (by simp)
          ·rw [if_neg c53] at H
           exact absurd H (by simp)
     ·rw [if_neg c10] at H
      exact absurd H (by simp)
    ·rw [if_neg c9] at H
     exact absurd H (by simp)
   ·rw [if_neg c8] at H
    have c8b0 : decide ((wrap64 (x9_1 + 1)) < (t266.length : Int)) = false := decide_eq_false c8
    clear c8
    obtain rfl := Option.some.inj H
    obtain ⟨Ao63, co63, eo63⟩ := Kd.R_slice HO_8.out
    subst eo63
    go_wp2
    go_ret
    exact ⟨_, by first | rfl | (simp [errW_none, errW_some] <;> rfl) | (simp [*, errW_none, errW_some] <;> rfl) | (exfalso; simp_all only [aside0_iff, Option.some.injEq, reduceCtorEq]), by (with_reducible repeat (first | apply Kd.R_alloc | apply Kd.R_drewN | apply Kd.R_drew)); exact HO_7.out, by repeat (first | (with_reducible first | exact HB.out | apply below_alloc | apply pw_below_drewN | apply below_drew1) | exact HB.out)⟩

end Go.Proofs.Ytebggajdojdebaa.PS
