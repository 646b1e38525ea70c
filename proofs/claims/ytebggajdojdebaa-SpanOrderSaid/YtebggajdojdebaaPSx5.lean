/- Plain Lean functions with the answers of the Go functions that these laws reach, and proofs that the calls come to them; written by this session's program. -/
import Derived.Test.YtebggajdojdebaaPSx0
import Derived.Test.YtebggajdojdebaaPSx2
import Derived.Test.YtebggajdojdebaaPSx3
import Derived.Test.YtebggajdojdebaaPSx4
namespace Go.Proofs.Ytebggajdojdebaa.PS
open Go.RowKit Go.Proofs.YtebggajdojdebaaW.PrintWords Go.Proofs.YtebggajdojdebaaW.PrintLast Go.Proofs.YtebggajdojdebaaW.PrintMore
attribute [local go_sem] max2_int min2_int max_two min_two max_three min_three max_four min_four   -- for this text's walks alone
set_option linter.unusedVariables false
set_option linter.unusedSimpArgs false

/-! ### l11_sanity: function 10 -/
mutual
def l11_sanity.j0 : Nat → List (S24) → List (S24) → List (S24) → Bool → Option (Bool)
 | 0, _, _, _, _ => none
 | k + 1, x1, x2, x5, x6 => (span_Covers.f x5 2 5).bind fun t179 => (if t179 = true then ((span_Covers.f x5 4 6).bind fun t180 => (if t180 = true then (l11_sanity.j1 k x1 x2 x6 false) else ((span_Covers.f x5 9 9).bind fun t181 => (l11_sanity.j1 k x1 x2 x6 t181)))) else (l11_sanity.j1 k x1 x2 x6 false))
def l11_sanity.j1 : Nat → List (S24) → List (S24) → Bool → Bool → Option (Bool)
 | 0, _, _, _, _ => none
 | k + 1, x1, x2, x6, x7 => if x6 = true then (if x7 = true then ((span_Has.f x1 4).bind fun t182 => (if t182 = true then ((span_Has.f x1 7).bind fun t183 => (if t183 = true then (some false) else ((span_Total.f k x1).bind fun t184 => (if t184 = 4 then ((span_Valid.f k x2).bind fun t185 => (if t185 = true then ((span_Valid.f k x1).bind fun t186 => (if t186 = true then (some false) else ((span_Valid.f k (([(⟨1, 3⟩ : S24), (⟨3, 4⟩ : S24)] : List (S24)))).bind fun t190 => (some (!t190))))) else (some false))) else (some false))))) else (some false))) else (some false)) else (some false)
end
def l11_sanity.f (k : Nat)  : Option (Bool) := (some (([(⟨3, 5⟩ : S24), (⟨1, 3⟩ : S24), (⟨7, 7⟩ : S24)] : List (S24)) : List (S24))).bind fun y134 => ((some (([(⟨1, 3⟩ : S24), (⟨5, 7⟩ : S24)] : List (S24)) : List (S24))).bind fun y137 => ((some (([(⟨2, 6⟩ : S24)] : List (S24)) : List (S24))).bind fun y140 => ((some (([(⟨1, 5⟩ : S24)] : List (S24)) : List (S24))).bind fun y146 => ((span_Norm.f y134).bind fun t149 => ((r11_Same.f k t149 y146).bind fun t152 => (if t152 = true then (if 1 ≤ (y137.length : Int) then ((span_Union.f (y137.take 1) (y137.drop 1)).bind fun t161 => ((r11_Same.f k t161 y137).bind fun t164 => (if t164 = true then ((span_Meet.f y137 y140).bind fun t165 => ((r11_Same.f k t165 (([(⟨2, 3⟩ : S24), (⟨5, 6⟩ : S24)] : List (S24)))).bind fun t171 => (if t171 = true then ((span_Minus.f (([(⟨1, 9⟩ : S24)] : List (S24))) y140).bind fun t172 => ((r11_Same.f k t172 (([(⟨1, 2⟩ : S24), (⟨6, 9⟩ : S24)] : List (S24)))).bind fun t178 => (l11_sanity.j0 k y134 y137 y146 t178))) else (l11_sanity.j0 k y134 y137 y146 false)))) else (l11_sanity.j0 k y134 y137 y146 false)))) else (none)) else (l11_sanity.j0 k y134 y137 y146 false)))))))
theorem l11_sanity.mono_l : ∀ k, (∀ y0 y1 y2 y3, LeO (l11_sanity.j0 k y0 y1 y2 y3) (l11_sanity.j0 (k + 1) y0 y1 y2 y3)) ∧ (∀ y0 y1 y2 y3, LeO (l11_sanity.j1 k y0 y1 y2 y3) (l11_sanity.j1 (k + 1) y0 y1 y2 y3))
 | 0 => ⟨fun _ _ _ _ r h => by simp [l11_sanity.j0] at h, fun _ _ _ _ r h => by simp [l11_sanity.j1] at h⟩
 | k + 1 => by
  obtain ⟨ih0, ih1⟩ := l11_sanity.mono_l k
  refine ⟨?_, ?_⟩
  ·intro y0 y1 y2 y3
   unfold l11_sanity.j0
   repeat' first
   | (with_reducible exact ih0 _ _ _ _)
   | (with_reducible exact ih1 _ _ _ _)
   | (with_reducible exact r11_Same.mono _ _ _)
   | (with_reducible exact span_Total.mono _ _)
   | (with_reducible exact span_Valid.mono _ _)
   | (with_reducible exact LeO.refl _)
   | (with_reducible exact LeO.none _)
   | (with_reducible refine LeO.ite ?_ ?_)
   | (with_reducible refine LeO.bind ?_ (fun _ => ?_))
   | exact ih0 _ _ _ _
   | exact ih1 _ _ _ _
   | exact r11_Same.mono _ _ _
   | exact span_Total.mono _ _
   | exact span_Valid.mono _ _
   | exact LeO.none _
   | refine LeO.ite ?_ ?_
   | refine LeO.bind ?_ (fun _ => ?_)
  ·intro y0 y1 y2 y3
   unfold l11_sanity.j1
   repeat' first
   | (with_reducible exact ih0 _ _ _ _)
   | (with_reducible exact ih1 _ _ _ _)
   | (with_reducible exact r11_Same.mono _ _ _)
   | (with_reducible exact span_Total.mono _ _)
   | (with_reducible exact span_Valid.mono _ _)
   | (with_reducible exact LeO.refl _)
   | (with_reducible exact LeO.none _)
   | (with_reducible refine LeO.ite ?_ ?_)
   | (with_reducible refine LeO.bind ?_ (fun _ => ?_))
   | exact ih0 _ _ _ _
   | exact ih1 _ _ _ _
   | exact r11_Same.mono _ _ _
   | exact span_Total.mono _ _
   | exact span_Valid.mono _ _
   | exact LeO.none _
   | refine LeO.ite ?_ ?_
   | refine LeO.bind ?_ (fun _ => ?_)
theorem l11_sanity.mono : ∀ k, LeO (l11_sanity.f k ) (l11_sanity.f (k + 1) ) := by
 intro  k
 obtain ⟨ih0, ih1⟩ := l11_sanity.mono_l k
 unfold l11_sanity.f
 repeat' first
   | (with_reducible exact ih0 _ _ _ _)
   | (with_reducible exact ih1 _ _ _ _)
   | (with_reducible exact r11_Same.mono _ _ _)
   | (with_reducible exact span_Total.mono _ _)
   | (with_reducible exact span_Valid.mono _ _)
   | (with_reducible exact LeO.refl _)
   | (with_reducible exact LeO.none _)
   | (with_reducible refine LeO.ite ?_ ?_)
   | (with_reducible refine LeO.bind ?_ (fun _ => ?_))
   | exact ih0 _ _ _ _
   | exact ih1 _ _ _ _
   | exact r11_Same.mono _ _ _
   | exact span_Total.mono _ _
   | exact span_Valid.mono _ _
   | exact LeO.none _
   | refine LeO.ite ?_ ?_
   | refine LeO.bind ?_ (fun _ => ?_)
def l11_sanity.T3 : Bool × List (List Nat × List Nat) := (true, [([], []), ([0], [0]), ([], []), ([1, 2, 1], [1, 2]), ([3, 3], [3]), ([4], [4]), ([5, 4], [4, 5]), ([4], [4]), ([7, 4], [4, 7]), ([6, 8, 4, 4], [4, 6, 8]), ([4], [4]), ([9, 10, 9, 4], [4, 9, 10]), ([4, 11], [4, 11]), ([12, 11], [12]), ([13], [13]), ([13], [13]), ([14, 15, 13, 13], [13, 14, 15]), ([13], [13]), ([13], [13]), ([17, 18, 13], [13, 17, 18]), ([16, 19, 16, 13], [13, 16, 19]), ([13, 20], [13, 20]), ([21, 20], [21]), ([22], [22]), ([22], [22]), ([23, 24, 22, 22], [22, 23, 24]), ([22], [22]), ([22], [22]), ([26, 27, 22], [22, 26, 27]), ([25, 28, 25, 22], [22, 25, 28]), ([22, 29], [22, 29]), ([30, 29, 0, 1, 2, 3, 4, 5, 6, 7, 8, 9, 10, 11, 12, 13, 14, 15, 16, 17, 18, 19, 20, 21, 22, 23, 24, 25, 26, 27, 28, 29, 30], [30])])
def l11_sanity.B3 : List Nat := [0, 1, 0, 7, 15, 31, 63, 31, 159, 511, 31, 2047, 4095, 8191, 16383, 16383, 65535, 16383, 16383, 409599, 1048575, 2097151, 4194303, 8388607, 8388607, 33554431, 8388607, 8388607, 209715199, 536870911, 1073741823, 2147483647]
theorem l11_sanity.tab3 : rtab .any (opsOf Try.f10 3) = l11_sanity.T3 := by kernel_rfl
theorem l11_sanity.bits3 : waitsOk l11_sanity.T3.2 l11_sanity.B3 = true := by kernel_rfl
set_option maxHeartbeats 8000000 in
set_option maxRecDepth 100000 in
theorem l11_sanity.callsT (k : Nat)  (r : Bool) (w : World) (hr : r = true) (h : l11_sanity.f k  = some r) :
  Calls Try.prog 10 #[] w fun e w' => e = .returned (.bool r) ∧ Below w.heap.size w w' := by
 have hu24 := Try.underlying24
 have HB := Aside0.mk (Below.refl w.heap.size w)
 have HLAW := Aside0.mk hr
 clear hr
 have H : ((some (([(⟨3, 5⟩ : S24), (⟨1, 3⟩ : S24), (⟨7, 7⟩ : S24)] : List (S24)) : List (S24))).bind fun y134 => ((some (([(⟨1, 3⟩ : S24), (⟨5, 7⟩ : S24)] : List (S24)) : List (S24))).bind fun y137 => ((some (([(⟨2, 6⟩ : S24)] : List (S24)) : List (S24))).bind fun y140 => ((some (([(⟨1, 5⟩ : S24)] : List (S24)) : List (S24))).bind fun y146 => ((span_Norm.f y134).bind fun t149 => ((r11_Same.f k t149 y146).bind fun t152 => (if t152 = true then (if 1 ≤ (y137.length : Int) then ((span_Union.f (y137.take 1) (y137.drop 1)).bind fun t161 => ((r11_Same.f k t161 y137).bind fun t164 => (if t164 = true then ((span_Meet.f y137 y140).bind fun t165 => ((r11_Same.f k t165 (([(⟨2, 3⟩ : S24), (⟨5, 6⟩ : S24)] : List (S24)))).bind fun t171 => (if t171 = true then ((span_Minus.f (([(⟨1, 9⟩ : S24)] : List (S24))) y140).bind fun t172 => ((r11_Same.f k t172 (([(⟨1, 2⟩ : S24), (⟨6, 9⟩ : S24)] : List (S24)))).bind fun t178 => (l11_sanity.j0 k y134 y137 y146 t178))) else (l11_sanity.j0 k y134 y137 y146 false)))) else (l11_sanity.j0 k y134 y137 y146 false)))) else (none)) else (l11_sanity.j0 k y134 y137 y146 false)))))))) = some r := h
 clear h
 obtain ⟨y134, hy134⟩ : ∃ y_ : List (S24), y_ = (([(⟨3, 5⟩ : S24), (⟨1, 3⟩ : S24), (⟨7, 7⟩ : S24)] : List (S24))) := ⟨_, rfl⟩
 replace H : ((some (([(⟨1, 3⟩ : S24), (⟨5, 7⟩ : S24)] : List (S24)) : List (S24))).bind fun y137 => ((some (([(⟨2, 6⟩ : S24)] : List (S24)) : List (S24))).bind fun y140 => ((some (([(⟨1, 5⟩ : S24)] : List (S24)) : List (S24))).bind fun y146 => ((span_Norm.f y134).bind fun t149 => ((r11_Same.f k t149 y146).bind fun t152 => (if t152 = true then (if 1 ≤ (y137.length : Int) then ((span_Union.f (y137.take 1) (y137.drop 1)).bind fun t161 => ((r11_Same.f k t161 y137).bind fun t164 => (if t164 = true then ((span_Meet.f y137 y140).bind fun t165 => ((r11_Same.f k t165 (([(⟨2, 3⟩ : S24), (⟨5, 6⟩ : S24)] : List (S24)))).bind fun t171 => (if t171 = true then ((span_Minus.f (([(⟨1, 9⟩ : S24)] : List (S24))) y140).bind fun t172 => ((r11_Same.f k t172 (([(⟨1, 2⟩ : S24), (⟨6, 9⟩ : S24)] : List (S24)))).bind fun t178 => (l11_sanity.j0 k y134 y137 y146 t178))) else (l11_sanity.j0 k y134 y137 y146 false)))) else (l11_sanity.j0 k y134 y137 y146 false)))) else (none)) else (l11_sanity.j0 k y134 y137 y146 false))))))) = some r := by first | (rw [hy134]; with_reducible exact H) | (have H2_ := (Option.bind_some _ _).symm.trans H; rw [hy134]; with_reducible exact H2_) | (have H2_ := (Option.bind_some _ _).symm.trans H; with_reducible exact H2_) | with_reducible exact H | (rw [hy134]; exact H) | exact H
 have Ny134 := Aside0.mk hy134
 clear hy134
 obtain ⟨y137, hy137⟩ : ∃ y_ : List (S24), y_ = (([(⟨1, 3⟩ : S24), (⟨5, 7⟩ : S24)] : List (S24))) := ⟨_, rfl⟩
 replace H : ((some (([(⟨2, 6⟩ : S24)] : List (S24)) : List (S24))).bind fun y140 => ((some (([(⟨1, 5⟩ : S24)] : List (S24)) : List (S24))).bind fun y146 => ((span_Norm.f y134).bind fun t149 => ((r11_Same.f k t149 y146).bind fun t152 => (if t152 = true then (if 1 ≤ (y137.length : Int) then ((span_Union.f (y137.take 1) (y137.drop 1)).bind fun t161 => ((r11_Same.f k t161 y137).bind fun t164 => (if t164 = true then ((span_Meet.f y137 y140).bind fun t165 => ((r11_Same.f k t165 (([(⟨2, 3⟩ : S24), (⟨5, 6⟩ : S24)] : List (S24)))).bind fun t171 => (if t171 = true then ((span_Minus.f (([(⟨1, 9⟩ : S24)] : List (S24))) y140).bind fun t172 => ((r11_Same.f k t172 (([(⟨1, 2⟩ : S24), (⟨6, 9⟩ : S24)] : List (S24)))).bind fun t178 => (l11_sanity.j0 k y134 y137 y146 t178))) else (l11_sanity.j0 k y134 y137 y146 false)))) else (l11_sanity.j0 k y134 y137 y146 false)))) else (none)) else (l11_sanity.j0 k y134 y137 y146 false)))))) = some r := by first | (rw [hy137]; with_reducible exact H) | (have H2_ := (Option.bind_some _ _).symm.trans H; rw [hy137]; with_reducible exact H2_) | (have H2_ := (Option.bind_some _ _).symm.trans H; with_reducible exact H2_) | with_reducible exact H | (rw [hy137]; exact H) | exact H
 have Ny137 := Aside0.mk hy137
 clear hy137
 obtain ⟨y140, hy140⟩ : ∃ y_ : List (S24), y_ = (([(⟨2, 6⟩ : S24)] : List (S24))) := ⟨_, rfl⟩
 replace H : ((some (([(⟨1, 5⟩ : S24)] : List (S24)) : List (S24))).bind fun y146 => ((span_Norm.f y134).bind fun t149 => ((r11_Same.f k t149 y146).bind fun t152 => (if t152 = true then (if 1 ≤ (y137.length : Int) then ((span_Union.f (y137.take 1) (y137.drop 1)).bind fun t161 => ((r11_Same.f k t161 y137).bind fun t164 => (if t164 = true then ((span_Meet.f y137 y140).bind fun t165 => ((r11_Same.f k t165 (([(⟨2, 3⟩ : S24), (⟨5, 6⟩ : S24)] : List (S24)))).bind fun t171 => (if t171 = true then ((span_Minus.f (([(⟨1, 9⟩ : S24)] : List (S24))) y140).bind fun t172 => ((r11_Same.f k t172 (([(⟨1, 2⟩ : S24), (⟨6, 9⟩ : S24)] : List (S24)))).bind fun t178 => (l11_sanity.j0 k y134 y137 y146 t178))) else (l11_sanity.j0 k y134 y137 y146 false)))) else (l11_sanity.j0 k y134 y137 y146 false)))) else (none)) else (l11_sanity.j0 k y134 y137 y146 false))))) = some r := by first | (rw [hy140]; with_reducible exact H) | (have H2_ := (Option.bind_some _ _).symm.trans H; rw [hy140]; with_reducible exact H2_) | (have H2_ := (Option.bind_some _ _).symm.trans H; with_reducible exact H2_) | with_reducible exact H | (rw [hy140]; exact H) | exact H
 have Ny140 := Aside0.mk hy140
 clear hy140
 obtain ⟨y143, hy143⟩ : ∃ y_ : List (S24), y_ = (([(⟨1, 9⟩ : S24)] : List (S24))) := ⟨_, rfl⟩
 replace H : ((some (([(⟨1, 5⟩ : S24)] : List (S24)) : List (S24))).bind fun y146 => ((span_Norm.f y134).bind fun t149 => ((r11_Same.f k t149 y146).bind fun t152 => (if t152 = true then (if 1 ≤ (y137.length : Int) then ((span_Union.f (y137.take 1) (y137.drop 1)).bind fun t161 => ((r11_Same.f k t161 y137).bind fun t164 => (if t164 = true then ((span_Meet.f y137 y140).bind fun t165 => ((r11_Same.f k t165 (([(⟨2, 3⟩ : S24), (⟨5, 6⟩ : S24)] : List (S24)))).bind fun t171 => (if t171 = true then ((span_Minus.f y143 y140).bind fun t172 => ((r11_Same.f k t172 (([(⟨1, 2⟩ : S24), (⟨6, 9⟩ : S24)] : List (S24)))).bind fun t178 => (l11_sanity.j0 k y134 y137 y146 t178))) else (l11_sanity.j0 k y134 y137 y146 false)))) else (l11_sanity.j0 k y134 y137 y146 false)))) else (none)) else (l11_sanity.j0 k y134 y137 y146 false))))) = some r := by first | (rw [hy143]; with_reducible exact H) | (have H2_ := (Option.bind_some _ _).symm.trans H; rw [hy143]; with_reducible exact H2_) | (have H2_ := (Option.bind_some _ _).symm.trans H; with_reducible exact H2_) | with_reducible exact H | (rw [hy143]; exact H) | exact H
 have Ny143 := Aside0.mk hy143
 clear hy143
 obtain ⟨y146, hy146⟩ : ∃ y_ : List (S24), y_ = (([(⟨1, 5⟩ : S24)] : List (S24))) := ⟨_, rfl⟩
 replace H : ((span_Norm.f y134).bind fun t149 => ((r11_Same.f k t149 y146).bind fun t152 => (if t152 = true then (if 1 ≤ (y137.length : Int) then ((span_Union.f (y137.take 1) (y137.drop 1)).bind fun t161 => ((r11_Same.f k t161 y137).bind fun t164 => (if t164 = true then ((span_Meet.f y137 y140).bind fun t165 => ((r11_Same.f k t165 (([(⟨2, 3⟩ : S24), (⟨5, 6⟩ : S24)] : List (S24)))).bind fun t171 => (if t171 = true then ((span_Minus.f y143 y140).bind fun t172 => ((r11_Same.f k t172 (([(⟨1, 2⟩ : S24), (⟨6, 9⟩ : S24)] : List (S24)))).bind fun t178 => (l11_sanity.j0 k y134 y137 y146 t178))) else (l11_sanity.j0 k y134 y137 y146 false)))) else (l11_sanity.j0 k y134 y137 y146 false)))) else (none)) else (l11_sanity.j0 k y134 y137 y146 false)))) = some r := by first | (rw [hy146]; with_reducible exact H) | (have H2_ := (Option.bind_some _ _).symm.trans H; rw [hy146]; with_reducible exact H2_) | (have H2_ := (Option.bind_some _ _).symm.trans H; with_reducible exact H2_) | with_reducible exact H | (rw [hy146]; exact H) | exact H
 have Ny146 := Aside0.mk hy146
 clear hy146
 have HC1 := Aside0.mk H
 clear H
 go_enter Try.func10, Try.ntmps10
 go_upto_region 3 with (first | ((with_reducible refine gate_dst (N := 11) rfl ?_); (try (refine gate_guard (by rfl) ?_; dsimp only)); refine Kd.R_lit k24 _ 24 ?hg (N := 11) ?hd (xs := ([(⟨3, 5⟩ : S24), (⟨1, 3⟩ : S24), (⟨7, 7⟩ : S24)] : List (S24))) (inner := [.int .i64 3, .int .i64 5, .int .i64 1, .int .i64 3, .int .i64 7, .int .i64 7]) (ok := fun _ => True) (okp := fun _ => True) ?hr ?hp (fun _ hk => hk) trivial (Below.refl _ _) (Nat.le_refl _) (by simp) ?_; (case hd => rfl); (case hg => rfl); (case hr => first | (go_simp; done) | (go_simp; rfl)); (case hp => exact (Reps.c2 (show Kd.M k24 _ _ _ (⟨3, 5⟩ : S24) [.int .i64 3, .int .i64 5] from (k24_mkM _ _ _ (⟨3, 5⟩ : S24) )) (Reps.c2 (show Kd.M k24 _ _ _ (⟨1, 3⟩ : S24) [.int .i64 1, .int .i64 3] from (k24_mkM _ _ _ (⟨1, 3⟩ : S24) )) (Reps.c2 (show Kd.M k24 _ _ _ (⟨7, 7⟩ : S24) [.int .i64 7, .int .i64 7] from (k24_mkM _ _ _ (⟨7, 7⟩ : S24) )) (Reps.none _ _))))); intro v135 w2 ho3 hb hg_ hnew_; clear hg_ hnew_; (first | rw [← Ny134.out] at ho3 | (simp only [Int.reduceToNat] at ho3; rw [← Ny134.out] at ho3)); have n0_ := Aside0.mk (Kd.R_lower ho3 (below_size (bZ HB.out))); have n1_ := Aside0.mk (below_step (bZ HB.out) hb); clear HB; have HO136 := n0_; have HB := n1_; clear n0_ n1_; clear hb ho3) | ((with_reducible refine gate_dst (N := 14) rfl ?_); (try (refine gate_guard (by rfl) ?_; dsimp only)); refine Kd.R_lit k24 _ 24 ?hg (N := 14) ?hd (xs := ([(⟨1, 3⟩ : S24), (⟨5, 7⟩ : S24)] : List (S24))) (inner := [.int .i64 1, .int .i64 3, .int .i64 5, .int .i64 7]) (ok := fun _ => True) (okp := fun _ => True) ?hr ?hp (fun _ hk => hk) trivial (Below.refl _ _) (Nat.le_refl _) (by simp) ?_; (case hd => rfl); (case hg => rfl); (case hr => first | (go_simp; done) | (go_simp; rfl)); (case hp => exact (Reps.c2 (show Kd.M k24 _ _ _ (⟨1, 3⟩ : S24) [.int .i64 1, .int .i64 3] from (k24_mkM _ _ _ (⟨1, 3⟩ : S24) )) (Reps.c2 (show Kd.M k24 _ _ _ (⟨5, 7⟩ : S24) [.int .i64 5, .int .i64 7] from (k24_mkM _ _ _ (⟨5, 7⟩ : S24) )) (Reps.none _ _)))); intro v138 w4 ho5 hb hg_ hnew_; clear hg_ hnew_; (first | rw [← Ny137.out] at ho5 | (simp only [Int.reduceToNat] at ho5; rw [← Ny137.out] at ho5)); have n0_ := Aside0.mk (Kd.R_elder' (rZ HO136.out) (Kd.R_base ho5) hb); have n1_ := Aside0.mk (Kd.R_lower (Kd.R_new' ho5 (Kd.R_lt (rZ HO136.out))) (below_size (bZ HB.out))); have n2_ := Aside0.mk (below_step (bZ HB.out) hb); clear HO136; clear HB; have HO136 := n0_; have HO139 := n1_; have HB := n2_; clear n0_ n1_ n2_; clear hb ho5) | ((with_reducible refine gate_dst (N := 16) rfl ?_); (try (refine gate_guard (by rfl) ?_; dsimp only)); refine Kd.R_lit k24 _ 24 ?hg (N := 16) ?hd (xs := ([(⟨2, 6⟩ : S24)] : List (S24))) (inner := [.int .i64 2, .int .i64 6]) (ok := fun _ => True) (okp := fun _ => True) ?hr ?hp (fun _ hk => hk) trivial (Below.refl _ _) (Nat.le_refl _) (by simp) ?_; (case hd => rfl); (case hg => rfl); (case hr => first | (go_simp; done) | (go_simp; rfl)); (case hp => exact (Reps.c2 (show Kd.M k24 _ _ _ (⟨2, 6⟩ : S24) [.int .i64 2, .int .i64 6] from (k24_mkM _ _ _ (⟨2, 6⟩ : S24) )) (Reps.none _ _))); intro v141 w6 ho7 hb hg_ hnew_; clear hg_ hnew_; (first | rw [← Ny140.out] at ho7 | (simp only [Int.reduceToNat] at ho7; rw [← Ny140.out] at ho7)); have n0_ := Aside0.mk (Kd.R_elder' (rZ HO136.out) (Kd.R_base ho7) hb); have n1_ := Aside0.mk (Kd.R_elder' (rZ HO139.out) (Kd.R_base ho7) hb); have n2_ := Aside0.mk (Kd.R_lower (Kd.R_new' (Kd.R_new' ho7 (Kd.R_lt (rZ HO136.out))) (Kd.R_lt (rZ HO139.out))) (below_size (bZ HB.out))); have n3_ := Aside0.mk (below_step (bZ HB.out) hb); clear HO136; clear HO139; clear HB; have HO136 := n0_; have HO139 := n1_; have HO142 := n2_; have HB := n3_; clear n0_ n1_ n2_ n3_; clear hb ho7) | ((with_reducible refine gate_dst (N := 18) rfl ?_); (try (refine gate_guard (by rfl) ?_; dsimp only)); refine Kd.R_lit k24 _ 24 ?hg (N := 18) ?hd (xs := ([(⟨1, 9⟩ : S24)] : List (S24))) (inner := [.int .i64 1, .int .i64 9]) (ok := fun _ => True) (okp := fun _ => True) ?hr ?hp (fun _ hk => hk) trivial (Below.refl _ _) (Nat.le_refl _) (by simp) ?_; (case hd => rfl); (case hg => rfl); (case hr => first | (go_simp; done) | (go_simp; rfl)); (case hp => exact (Reps.c2 (show Kd.M k24 _ _ _ (⟨1, 9⟩ : S24) [.int .i64 1, .int .i64 9] from (k24_mkM _ _ _ (⟨1, 9⟩ : S24) )) (Reps.none _ _))); intro v144 w8 ho9 hb hg_ hnew_; clear hg_ hnew_; (first | rw [← Ny143.out] at ho9 | (simp only [Int.reduceToNat] at ho9; rw [← Ny143.out] at ho9)); have n0_ := Aside0.mk (Kd.R_elder' (rZ HO136.out) (Kd.R_base ho9) hb); have n1_ := Aside0.mk (Kd.R_elder' (rZ HO139.out) (Kd.R_base ho9) hb); have n2_ := Aside0.mk (Kd.R_elder' (rZ HO142.out) (Kd.R_base ho9) hb); have n3_ := Aside0.mk (Kd.R_lower (Kd.R_new' (Kd.R_new' (Kd.R_new' ho9 (Kd.R_lt (rZ HO136.out))) (Kd.R_lt (rZ HO139.out))) (Kd.R_lt (rZ HO142.out))) (below_size (bZ HB.out))); have n4_ := Aside0.mk (below_step (bZ HB.out) hb); clear HO136; clear HO139; clear HO142; clear HB; have HO136 := n0_; have HO139 := n1_; have HO142 := n2_; have HO145 := n3_; have HB := n4_; clear n0_ n1_ n2_ n3_ n4_; clear hb ho9) | ((with_reducible refine gate_dst (N := 20) rfl ?_); (try (refine gate_guard (by rfl) ?_; dsimp only)); refine Kd.R_lit k24 _ 24 ?hg (N := 20) ?hd (xs := ([(⟨1, 5⟩ : S24)] : List (S24))) (inner := [.int .i64 1, .int .i64 5]) (ok := fun _ => True) (okp := fun _ => True) ?hr ?hp (fun _ hk => hk) trivial (Below.refl _ _) (Nat.le_refl _) (by simp) ?_; (case hd => rfl); (case hg => rfl); (case hr => first | (go_simp; done) | (go_simp; rfl)); (case hp => exact (Reps.c2 (show Kd.M k24 _ _ _ (⟨1, 5⟩ : S24) [.int .i64 1, .int .i64 5] from (k24_mkM _ _ _ (⟨1, 5⟩ : S24) )) (Reps.none _ _))); intro v147 w10 ho11 hb hg_ hnew_; clear hg_ hnew_; (first | rw [← Ny146.out] at ho11 | (simp only [Int.reduceToNat] at ho11; rw [← Ny146.out] at ho11)); have n0_ := Aside0.mk (Kd.R_elder' (rZ HO136.out) (Kd.R_base ho11) hb); have n1_ := Aside0.mk (Kd.R_elder' (rZ HO139.out) (Kd.R_base ho11) hb); have n2_ := Aside0.mk (Kd.R_elder' (rZ HO142.out) (Kd.R_base ho11) hb); have n3_ := Aside0.mk (Kd.R_elder' (rZ HO145.out) (Kd.R_base ho11) hb); have n4_ := Aside0.mk (Kd.R_lower (Kd.R_new' (Kd.R_new' (Kd.R_new' (Kd.R_new' ho11 (Kd.R_lt (rZ HO136.out))) (Kd.R_lt (rZ HO139.out))) (Kd.R_lt (rZ HO142.out))) (Kd.R_lt (rZ HO145.out))) (below_size (bZ HB.out))); have n5_ := Aside0.mk (below_step (bZ HB.out) hb); clear HO136; clear HO139; clear HO142; clear HO145; clear HB; have HO136 := n0_; have HO139 := n1_; have HO142 := n2_; have HO145 := n3_; have HO148 := n4_; have HB := n5_; clear n0_ n1_ n2_ n3_ n4_ n5_; clear hb ho11))
 (try simp only [Act.put, List.setIfInBounds_toArray, List.set_cons_zero, List.set_cons_succ])
 go_cut [6] (fun v6 wc => ∃ (kq : Nat) (x6_0 : Bool), v6 = .bool x6_0 ∧ Aside0 (l11_sanity.j0 kq y134 y137 y146 x6_0 = some r) ∧ Aside0 (kq ≤ k) ∧ Aside0 (Kd.R k24 24 wc w.heap.size (fun k_ => some k_ ≠ (v138 : Value).ownBlock ∧ some k_ ≠ (v147 : Value).ownBlock) v135 y134) ∧ Aside0 (Kd.R k24 24 wc w.heap.size (fun k_ => some k_ ≠ (v135 : Value).ownBlock ∧ some k_ ≠ (v147 : Value).ownBlock) v138 y137) ∧ Aside0 (Kd.R k24 24 wc w.heap.size (fun k_ => some k_ ≠ (v135 : Value).ownBlock ∧ some k_ ≠ (v138 : Value).ownBlock) v147 y146) ∧ Aside0 (Below w.heap.size w wc))
 case first =>
  have H := HC1.out
  clear HC1
  replace H := Option.bind_eq_some_iff.mp H
  obtain ⟨t149, A120, H⟩ := H
  replace H : ((r11_Same.f k t149 y146).bind fun t152 => (if t152 = true then (if 1 ≤ (y137.length : Int) then ((span_Union.f (y137.take 1) (y137.drop 1)).bind fun t161 => ((r11_Same.f k t161 y137).bind fun t164 => (if t164 = true then ((span_Meet.f y137 y140).bind fun t165 => ((r11_Same.f k t165 (([(⟨2, 3⟩ : S24), (⟨5, 6⟩ : S24)] : List (S24)))).bind fun t171 => (if t171 = true then ((span_Minus.f y143 y140).bind fun t172 => ((r11_Same.f k t172 (([(⟨1, 2⟩ : S24), (⟨6, 9⟩ : S24)] : List (S24)))).bind fun t178 => (l11_sanity.j0 k y134 y137 y146 t178))) else (l11_sanity.j0 k y134 y137 y146 false)))) else (l11_sanity.j0 k y134 y137 y146 false)))) else (none)) else (l11_sanity.j0 k y134 y137 y146 false))) = some r := H
  have A12 := Aside0.mk A120
  clear A120
  replace H := Option.bind_eq_some_iff.mp H
  obtain ⟨t152, A130, H⟩ := H
  replace H : (if t152 = true then (if 1 ≤ (y137.length : Int) then ((span_Union.f (y137.take 1) (y137.drop 1)).bind fun t161 => ((r11_Same.f k t161 y137).bind fun t164 => (if t164 = true then ((span_Meet.f y137 y140).bind fun t165 => ((r11_Same.f k t165 (([(⟨2, 3⟩ : S24), (⟨5, 6⟩ : S24)] : List (S24)))).bind fun t171 => (if t171 = true then ((span_Minus.f y143 y140).bind fun t172 => ((r11_Same.f k t172 (([(⟨1, 2⟩ : S24), (⟨6, 9⟩ : S24)] : List (S24)))).bind fun t178 => (l11_sanity.j0 k y134 y137 y146 t178))) else (l11_sanity.j0 k y134 y137 y146 false)))) else (l11_sanity.j0 k y134 y137 y146 false)))) else (none)) else (l11_sanity.j0 k y134 y137 y146 false)) = some r := H
  have A13 := Aside0.mk A130
  clear A130
  by_cases c14 : t152 = true
  ·subst c14
   have H1 : (if 1 ≤ (y137.length : Int) then ((span_Union.f (y137.take 1) (y137.drop 1)).bind fun t161 => ((r11_Same.f k t161 y137).bind fun t164 => (if t164 = true then ((span_Meet.f y137 y140).bind fun t165 => ((r11_Same.f k t165 (([(⟨2, 3⟩ : S24), (⟨5, 6⟩ : S24)] : List (S24)))).bind fun t171 => (if t171 = true then ((span_Minus.f y143 y140).bind fun t172 => ((r11_Same.f k t172 (([(⟨1, 2⟩ : S24), (⟨6, 9⟩ : S24)] : List (S24)))).bind fun t178 => (l11_sanity.j0 k y134 y137 y146 t178))) else (l11_sanity.j0 k y134 y137 y146 false)))) else (l11_sanity.j0 k y134 y137 y146 false)))) else (none)) = some r := by rw [if_pos rfl] at H; exact H
   clear H
   have H := H1
   clear H1
   by_cases c15 : 1 ≤ (y137.length : Int)
   ·rw [if_pos c15] at H
    have c15b0 := eq_true c15
    have c15b1 : decide (1 ≤ (y137.length : Int)) = true := decide_eq_true c15
    clear c15
    obtain ⟨y153, hy153⟩ : ∃ y_ : List (S24), y_ = (y137.take 1) := ⟨_, rfl⟩
    replace H : ((span_Union.f y153 (y137.drop 1)).bind fun t161 => ((r11_Same.f k t161 y137).bind fun t164 => (if t164 = true then ((span_Meet.f y137 y140).bind fun t165 => ((r11_Same.f k t165 (([(⟨2, 3⟩ : S24), (⟨5, 6⟩ : S24)] : List (S24)))).bind fun t171 => (if t171 = true then ((span_Minus.f y143 y140).bind fun t172 => ((r11_Same.f k t172 (([(⟨1, 2⟩ : S24), (⟨6, 9⟩ : S24)] : List (S24)))).bind fun t178 => (l11_sanity.j0 k y134 y137 y146 t178))) else (l11_sanity.j0 k y134 y137 y146 false)))) else (l11_sanity.j0 k y134 y137 y146 false)))) = some r := by first | (rw [hy153]; with_reducible exact H) | (have H2_ := (Option.bind_some _ _).symm.trans H; rw [hy153]; with_reducible exact H2_) | (have H2_ := (Option.bind_some _ _).symm.trans H; with_reducible exact H2_) | with_reducible exact H | (rw [hy153]; exact H) | exact H
    have Ny153 := Aside0.mk hy153
    clear hy153
    have c16b0 := eq_true (of_decide_eq_true (by first | (with_reducible assumption) | assumption) : 1 ≤ (y137.length : Int))
    obtain ⟨y157, hy157⟩ : ∃ y_ : List (S24), y_ = (y137.drop 1) := ⟨_, rfl⟩
    replace H : ((span_Union.f y153 y157).bind fun t161 => ((r11_Same.f k t161 y137).bind fun t164 => (if t164 = true then ((span_Meet.f y137 y140).bind fun t165 => ((r11_Same.f k t165 (([(⟨2, 3⟩ : S24), (⟨5, 6⟩ : S24)] : List (S24)))).bind fun t171 => (if t171 = true then ((span_Minus.f y143 y140).bind fun t172 => ((r11_Same.f k t172 (([(⟨1, 2⟩ : S24), (⟨6, 9⟩ : S24)] : List (S24)))).bind fun t178 => (l11_sanity.j0 k y134 y137 y146 t178))) else (l11_sanity.j0 k y134 y137 y146 false)))) else (l11_sanity.j0 k y134 y137 y146 false)))) = some r := by first | (rw [hy157]; with_reducible exact H) | (have H2_ := (Option.bind_some _ _).symm.trans H; rw [hy157]; with_reducible exact H2_) | (have H2_ := (Option.bind_some _ _).symm.trans H; with_reducible exact H2_) | with_reducible exact H | (rw [hy157]; exact H) | exact H
    have Ny157 := Aside0.mk hy157
    clear hy157
    replace H := Option.bind_eq_some_iff.mp H
    obtain ⟨t161, A170, H⟩ := H
    replace H : ((r11_Same.f k t161 y137).bind fun t164 => (if t164 = true then ((span_Meet.f y137 y140).bind fun t165 => ((r11_Same.f k t165 (([(⟨2, 3⟩ : S24), (⟨5, 6⟩ : S24)] : List (S24)))).bind fun t171 => (if t171 = true then ((span_Minus.f y143 y140).bind fun t172 => ((r11_Same.f k t172 (([(⟨1, 2⟩ : S24), (⟨6, 9⟩ : S24)] : List (S24)))).bind fun t178 => (l11_sanity.j0 k y134 y137 y146 t178))) else (l11_sanity.j0 k y134 y137 y146 false)))) else (l11_sanity.j0 k y134 y137 y146 false))) = some r := H
    have A17 := Aside0.mk A170
    clear A170
    replace H := Option.bind_eq_some_iff.mp H
    obtain ⟨t164, A180, H⟩ := H
    replace H : (if t164 = true then ((span_Meet.f y137 y140).bind fun t165 => ((r11_Same.f k t165 (([(⟨2, 3⟩ : S24), (⟨5, 6⟩ : S24)] : List (S24)))).bind fun t171 => (if t171 = true then ((span_Minus.f y143 y140).bind fun t172 => ((r11_Same.f k t172 (([(⟨1, 2⟩ : S24), (⟨6, 9⟩ : S24)] : List (S24)))).bind fun t178 => (l11_sanity.j0 k y134 y137 y146 t178))) else (l11_sanity.j0 k y134 y137 y146 false)))) else (l11_sanity.j0 k y134 y137 y146 false)) = some r := H
    have A18 := Aside0.mk A180
    clear A180
    by_cases c19 : t164 = true
    ·subst c19
     have H1 : ((span_Meet.f y137 y140).bind fun t165 => ((r11_Same.f k t165 (([(⟨2, 3⟩ : S24), (⟨5, 6⟩ : S24)] : List (S24)))).bind fun t171 => (if t171 = true then ((span_Minus.f y143 y140).bind fun t172 => ((r11_Same.f k t172 (([(⟨1, 2⟩ : S24), (⟨6, 9⟩ : S24)] : List (S24)))).bind fun t178 => (l11_sanity.j0 k y134 y137 y146 t178))) else (l11_sanity.j0 k y134 y137 y146 false)))) = some r := by rw [if_pos rfl] at H; exact H
     clear H
     have H := H1
     clear H1
     replace H := Option.bind_eq_some_iff.mp H
     obtain ⟨t165, A200, H⟩ := H
     replace H : ((r11_Same.f k t165 (([(⟨2, 3⟩ : S24), (⟨5, 6⟩ : S24)] : List (S24)))).bind fun t171 => (if t171 = true then ((span_Minus.f y143 y140).bind fun t172 => ((r11_Same.f k t172 (([(⟨1, 2⟩ : S24), (⟨6, 9⟩ : S24)] : List (S24)))).bind fun t178 => (l11_sanity.j0 k y134 y137 y146 t178))) else (l11_sanity.j0 k y134 y137 y146 false))) = some r := H
     have A20 := Aside0.mk A200
     clear A200
     obtain ⟨y168, hy168⟩ : ∃ y_ : List (S24), y_ = (([(⟨2, 3⟩ : S24), (⟨5, 6⟩ : S24)] : List (S24))) := ⟨_, rfl⟩
     replace H : ((r11_Same.f k t165 y168).bind fun t171 => (if t171 = true then ((span_Minus.f y143 y140).bind fun t172 => ((r11_Same.f k t172 (([(⟨1, 2⟩ : S24), (⟨6, 9⟩ : S24)] : List (S24)))).bind fun t178 => (l11_sanity.j0 k y134 y137 y146 t178))) else (l11_sanity.j0 k y134 y137 y146 false))) = some r := by first | (rw [hy168]; with_reducible exact H) | (have H2_ := (Option.bind_some _ _).symm.trans H; rw [hy168]; with_reducible exact H2_) | (have H2_ := (Option.bind_some _ _).symm.trans H; with_reducible exact H2_) | with_reducible exact H | (rw [hy168]; exact H) | exact H
     have Ny168 := Aside0.mk hy168
     clear hy168
     replace H := Option.bind_eq_some_iff.mp H
     obtain ⟨t171, A210, H⟩ := H
     replace H : (if t171 = true then ((span_Minus.f y143 y140).bind fun t172 => ((r11_Same.f k t172 (([(⟨1, 2⟩ : S24), (⟨6, 9⟩ : S24)] : List (S24)))).bind fun t178 => (l11_sanity.j0 k y134 y137 y146 t178))) else (l11_sanity.j0 k y134 y137 y146 false)) = some r := H
     have A21 := Aside0.mk A210
     clear A210
     by_cases c22 : t171 = true
     ·subst c22
      have H1 : ((span_Minus.f y143 y140).bind fun t172 => ((r11_Same.f k t172 (([(⟨1, 2⟩ : S24), (⟨6, 9⟩ : S24)] : List (S24)))).bind fun t178 => (l11_sanity.j0 k y134 y137 y146 t178))) = some r := by rw [if_pos rfl] at H; exact H
      clear H
      have H := H1
      clear H1
      replace H := Option.bind_eq_some_iff.mp H
      obtain ⟨t172, A230, H⟩ := H
      replace H : ((r11_Same.f k t172 (([(⟨1, 2⟩ : S24), (⟨6, 9⟩ : S24)] : List (S24)))).bind fun t178 => (l11_sanity.j0 k y134 y137 y146 t178)) = some r := H
      have A23 := Aside0.mk A230
      clear A230
      obtain ⟨y175, hy175⟩ : ∃ y_ : List (S24), y_ = (([(⟨1, 2⟩ : S24), (⟨6, 9⟩ : S24)] : List (S24))) := ⟨_, rfl⟩
      replace H : ((r11_Same.f k t172 y175).bind fun t178 => (l11_sanity.j0 k y134 y137 y146 t178)) = some r := by first | (rw [hy175]; with_reducible exact H) | (have H2_ := (Option.bind_some _ _).symm.trans H; rw [hy175]; with_reducible exact H2_) | (have H2_ := (Option.bind_some _ _).symm.trans H; with_reducible exact H2_) | with_reducible exact H | (rw [hy175]; exact H) | exact H
      have Ny175 := Aside0.mk hy175
      clear hy175
      replace H := Option.bind_eq_some_iff.mp H
      obtain ⟨t178, A240, H⟩ := H
      replace H : (l11_sanity.j0 k y134 y137 y146 t178) = some r := H
      have A24 := Aside0.mk A240
      clear A240
      have H' := Aside0.mk H
      clear H
      obtain ⟨Ao25, co25, eo25⟩ := Kd.R_slice HO136.out
      subst eo25
      obtain ⟨Ao26, co26, eo26⟩ := Kd.R_slice HO148.out
      subst eo26
      obtain ⟨Ao27, co27, eo27⟩ := Kd.R_slice HO139.out
      subst eo27
      obtain ⟨Ao28, co28, eo28⟩ := Kd.R_slice HO142.out
      subst eo28
      obtain ⟨Ao29, co29, eo29⟩ := Kd.R_slice HO145.out
      subst eo29
      try go_wp2
      have n0_ := Aside0.mk (Kd.R_drew HO136.out)
      have n1_ := Aside0.mk (Kd.R_drew HO139.out)
      have n2_ := Aside0.mk (Kd.R_drew HO142.out)
      have n3_ := Aside0.mk (Kd.R_drew HO145.out)
      have n4_ := Aside0.mk (Kd.R_drew HO148.out)
      have n5_ := Aside0.mk (below_drew1 HB.out)
      clear HO136
      clear HO139
      clear HO142
      clear HO145
      clear HO148
      clear HB
      have HO136 := n0_
      have HO139 := n1_
      have HO142 := n2_
      have HO145 := n3_
      have HO148 := n4_
      have HB := n5_
      clear n0_ n1_ n2_ n3_ n4_ n5_
      refine start_ (n := 32) (S := fun w' => True) (ds := []) #[false, false, false, false, false, false, false, false, false, false, false, false, false, false, false, false, false, false, false, false, false, false, false, false, false, false, false, false, false, false, false, false] (by kernel_rfl) rfl rfl trivial (fun hHeld => ?_); refine with_tabW l11_sanity.tab3 l11_sanity.bits3 (fun HT_ HW_ => ?_)
      generalize w10.drew = w30 at HO136 HO139 HO142 HO145 HO148 HB hHeld ⊢
      refine pure_ (i := 0) (N := some 21) (v := ?_) (a' := ?_) #[true, false, false, false, false, false, false, false, false, false, false, false, false, false, false, false, false, false, false, false, false, false, false, false, false, false, false, false, false, false, false, false] rfl rfl (any_of HT_.out (by kernel_rfl)) (fun _ _ _ h => h) (Or.inl ⟨by rfl, ?_⟩) ?_ ?_
      rotate_left
      ·intro w'
       go_simp
       with_reducible rfl
      rotate_left
      ·simp only [Act.put, List.setIfInBounds_toArray, List.set_cons_zero, List.set_cons_succ, i64_w, i32_w]
       rfl
      refine pure_ (i := 2) (N := some 23) (v := ?_) (a' := ?_) #[true, false, true, false, false, false, false, false, false, false, false, false, false, false, false, false, false, false, false, false, false, false, false, false, false, false, false, false, false, false, false, false] rfl rfl (any_of HT_.out (by kernel_rfl)) (fun _ _ _ h => h) (Or.inl ⟨by rfl, ?_⟩) ?_ ?_
      rotate_left
      ·intro w'
       go_simp
       with_reducible rfl
      rotate_left
      ·simp only [Act.put, List.setIfInBounds_toArray, List.set_cons_zero, List.set_cons_succ, i64_w, i32_w]
       rfl
      refine one_ (i := 1) (N := some 22) #[true, true, true, false, false, false, false, false, false, false, false, false, false, false, false, false, false, false, false, false, false, false, false, false, false, false, false, false, false, false, false, false] rfl rfl (one_of HT_.out (by kernel_rfl)) (by decide) (fun K hK => ?_)
      refine goes_ Try.func15 (by kernel_rfl) rfl #[.slice Ao25 y134.length co25] (by rfl) rfl rfl (by (try simp only [List.map_toArray, List.map_cons, List.map_nil]); first | done | rfl | (simp only [List.length_drop, List.length_take]; rfl)) ?_
      with_reducible refine (span_Norm.calls _ _ y134 t149 _ ?side1 ?side2 A12.out).mono ?_
      (case side1 => repeat (first | exact (Kd.R_reads' HO136.out).2.2 | (with_reducible refine Kd.C_alloc ?_ _) | (with_reducible refine Kd.C_drewN ?_ _) | (with_reducible refine Kd.C_drew ?_)))
      (case side2 => exact (Kd.R_reads' HO136.out).2.1)
      rintro e w31 ⟨v150, rfl, ho0, hb⟩
      refine ⟨_, rfl, ?_⟩
      have n0_ := Aside0.mk (Kd.R_elder' (rZ HO136.out) (Kd.R_base ho0) hb)
      have n1_ := Aside0.mk (Kd.R_elder' (rZ HO139.out) (Kd.R_base ho0) hb)
      have n2_ := Aside0.mk (Kd.R_elder' (rZ HO142.out) (Kd.R_base ho0) hb)
      have n3_ := Aside0.mk (Kd.R_elder' (rZ HO145.out) (Kd.R_base ho0) hb)
      have n4_ := Aside0.mk (Kd.R_elder' (rZ HO148.out) (Kd.R_base ho0) hb)
      have n5_ := Aside0.mk (Kd.R_lower (Kd.R_new' (Kd.R_new' (Kd.R_new' (Kd.R_new' (Kd.R_new' ho0 (Kd.R_lt (rZ HO136.out))) (Kd.R_lt (rZ HO139.out))) (Kd.R_lt (rZ HO142.out))) (Kd.R_lt (rZ HO145.out))) (Kd.R_lt (rZ HO148.out))) (below_size (bZ HB.out)))
      have n6_ := Aside0.mk (below_step (bZ HB.out) hb)
      clear HO136
      clear HO139
      clear HO142
      clear HO145
      clear HO148
      clear HB
      have HO136 := n0_
      have HO139 := n1_
      have HO142 := n2_
      have HO145 := n3_
      have HO148 := n4_
      have HO151 := n5_
      have HB := n6_
      clear n0_ n1_ n2_ n3_ n4_ n5_ n6_
      (try clear hb)
      (try clear hb2)
      (try clear hk)
      (try clear hi)
      (try clear ho0)
      obtain ⟨Ao32, co32, eo32⟩ := Kd.R_slice HO151.out
      (first | subst eo32 | (injection eo32 with f1_ f2_ f3_; have f4_ := f1_.symm; have f5_ := f3_.symm; clear f1_ f2_ f3_; subst f4_; subst f5_))
      refine hK.out _ _ trivial (fun hHeld => ?_)
      clear hK K
      refine norm_ (a' := ?_) ?_ ?_
      rotate_left
      ·show Act.put _ (some 22) _ = _
       simp only [Act.put, List.setIfInBounds_toArray, List.set_cons_zero, List.set_cons_succ, i64_w, i32_w]
       rfl
      refine one_ (i := 3) (N := some 24) #[true, true, true, true, false, false, false, false, false, false, false, false, false, false, false, false, false, false, false, false, false, false, false, false, false, false, false, false, false, false, false, false] rfl rfl (one_of HT_.out (by kernel_rfl)) (by decide) (fun K hK => ?_)
      refine goes_ Try.func14 (by kernel_rfl) rfl #[.slice Ao32 t149.length co32, .slice Ao26 y146.length co26] (by rfl) rfl rfl (by (try simp only [List.map_toArray, List.map_cons, List.map_nil]); first | done | rfl | (simp only [List.length_drop, List.length_take]; rfl)) ?_
      with_reducible refine (r11_Same.calls k _ _ t149 _ _ y146 true _ ?side1 ?side2 ?side3 ?side4 A13.out).mono ?_
      (case side1 => repeat (first | exact (Kd.R_reads' HO151.out).2.2 | (with_reducible refine Kd.C_alloc ?_ _) | (with_reducible refine Kd.C_drewN ?_ _) | (with_reducible refine Kd.C_drew ?_)))
      (case side2 => exact (Kd.R_reads' HO151.out).2.1)
      (case side3 => repeat (first | exact (Kd.R_reads' HO148.out).2.2 | (with_reducible refine Kd.C_alloc ?_ _) | (with_reducible refine Kd.C_drewN ?_ _) | (with_reducible refine Kd.C_drew ?_)))
      (case side4 => exact (Kd.R_reads' HO148.out).2.1)
      rintro e w' ⟨rfl, ⟨nd, rfl⟩⟩
      refine ⟨_, rfl, ?_⟩
      have q33 : (1 : Int) ≤ ((y137.length : Int) : Int) := of_decide_eq_true (by first | (with_reducible assumption) | assumption)
      obtain ⟨i033, hi033, _, hsz33, _⟩ := info_parts info24
      have hroom33 : y137.length ≤ co27 := (Kd.R_reads' HO139.out).2.1
      have hC33 : Kd.C k24 _ Ao27 y137.length y137 := (Kd.R_reads' HO139.out).2.2
      have hcut33 := cut_to (P := Try.prog) 22 24 .i64 Try.underlying22 hi033 Ao27 y137.length co27 1 (by omega) q33 hroom33
      have hr33 := Kd.C_take (m := 1) hC33 (by omega)
      have hy33 : y153.length = (1 : Int).toNat := (by rw [Ny153.out, List.length_take]; omega)
      rw [← Ny153.out] at hr33
      rw [← hy33] at hcut33
      have HR156 := Aside0.mk hr33
      have HC156 := Aside0.mk (show y153.length ≤ co27 from by omega)
      clear hr33 hC33 hroom33 hi033 hsz33
      have KY33 := Aside0.mk hy33
      clear hy33
      have KL33 := Aside0.mk (show 1 ≤ y137.length from by omega)
      replace q33 := eq_true q33
      have q34 : (1 : Int) ≤ ((y137.length : Int) : Int) := of_decide_eq_true (by first | (with_reducible assumption) | assumption)
      obtain ⟨i034, hi034, _, hsz34, _⟩ := info_parts info24
      have hroom34 : y137.length ≤ co27 := (Kd.R_reads' HO139.out).2.1
      have hC34 : Kd.C k24 _ Ao27 y137.length y137 := (Kd.R_reads' HO139.out).2.2
      have hcut34 := cut_from (P := Try.prog) 22 24 .i64 Try.underlying22 hi034 2 hsz34 Ao27 y137.length co27 1 (by omega) q34
      have hr34 := Kd.C_drop (m := (1 : Int).toNat) (c := co27) hC34 (by omega) hroom34
      obtain ⟨A34, hA34⟩ : ∃ A1, A1 = (if co27 = (1 : Int).toNat then Ao27 else (Ao27 : Option Addr).map (·.add ((1 : Int).toNat * 2))) := ⟨_, rfl⟩
      obtain ⟨c34, hc34⟩ : ∃ c1, c1 = co27 - (1 : Int).toNat := ⟨_, rfl⟩
      have hy34 : y157.length = y137.length - (1 : Int).toNat := (by rw [Ny157.out, List.length_drop] <;> omega)
      rw [show (y137).drop (1 : Int).toNat = y157 from Ny157.out.symm] at hr34
      replace hr34 : Kd.C k24 _ A34 y157.length y157 := (by rw [hA34]; exact hr34)
      rw [← hy34, ← hA34, ← hc34] at hcut34
      have HR160 := Aside0.mk hr34
      have HC160 := Aside0.mk (show y157.length ≤ c34 from by rw [hy34, hc34]; exact Nat.sub_le_sub_right hroom34 _)
      clear hr34 hC34 hroom34 hi034 hsz34 hc34
      have KY34 := Aside0.mk hy34
      have KA34 := Aside0.mk hA34
      clear hy34 hA34
      have KL34 := Aside0.mk (show 1 ≤ y137.length from by omega)
      replace q34 := eq_true q34
      refine hK.out _ _ trivial (fun hHeld => ?_)
      clear hK K
      refine norm_ (a' := ?_) ?_ ?_
      rotate_left
      ·show Act.put _ (some 24) _ = _
       simp only [Act.put, List.setIfInBounds_toArray, List.set_cons_zero, List.set_cons_succ, i64_w, i32_w]
       rfl
      refine pure_ (i := 4) (N := some 25) (v := ?_) (a' := ?_) #[true, true, true, true, true, false, false, false, false, false, false, false, false, false, false, false, false, false, false, false, false, false, false, false, false, false, false, false, false, false, false, false] rfl rfl (any_of HT_.out (by kernel_rfl)) (fun _ _ _ h => h) (Or.inl ⟨by rfl, ?_⟩) ?_ ?_
      rotate_left
      ·intro w'
       go_simp
       with_reducible rfl
      rotate_left
      ·simp only [Act.put, List.setIfInBounds_toArray, List.set_cons_zero, List.set_cons_succ, i64_w, i32_w]
       rfl
      refine pure_ (i := 5) (N := some 26) (v := ?_) (a' := ?_) #[true, true, true, true, true, true, false, false, false, false, false, false, false, false, false, false, false, false, false, false, false, false, false, false, false, false, false, false, false, false, false, false] rfl rfl (any_of HT_.out (by kernel_rfl)) (fun _ _ _ h => h) (Or.inl ⟨by rfl, ?_⟩) ?_ ?_
      rotate_left
      ·intro w'
       go_simp
       with_reducible rfl
      rotate_left
      ·simp only [Act.put, List.setIfInBounds_toArray, List.set_cons_zero, List.set_cons_succ, i64_w, i32_w]
       rfl
      refine pure_ (i := 6) (N := some 27) (v := ?_) (a' := ?_) #[true, true, true, true, true, true, true, false, false, false, false, false, false, false, false, false, false, false, false, false, false, false, false, false, false, false, false, false, false, false, false, false] rfl rfl (any_of HT_.out (by kernel_rfl)) (fun _ _ _ h => h) (Or.inl ⟨by rfl, ?_⟩) ?_ ?_
      rotate_left
      ·intro w'
       go_simp
       with_reducible rfl
      rotate_left
      ·simp only [Act.put, List.setIfInBounds_toArray, List.set_cons_zero, List.set_cons_succ, i64_w, i32_w]
       rfl
      refine pure_ (i := 7) (N := some 28) (v := ?_) (a' := ?_) #[true, true, true, true, true, true, true, true, false, false, false, false, false, false, false, false, false, false, false, false, false, false, false, false, false, false, false, false, false, false, false, false] rfl rfl (any_of HT_.out (by kernel_rfl)) (fun _ _ _ h => h) (Or.inl ⟨by rfl, ?_⟩) ?_ ?_
      rotate_left
      ·intro w'
       go_simp
       with_reducible rfl
      rotate_left
      ·simp only [Act.put, List.setIfInBounds_toArray, List.set_cons_zero, List.set_cons_succ, i64_w, i32_w]
       rfl
      refine pure_ (i := 8) (N := some 29) (v := ?_) (a' := ?_) #[true, true, true, true, true, true, true, true, true, false, false, false, false, false, false, false, false, false, false, false, false, false, false, false, false, false, false, false, false, false, false, false] rfl rfl (any_of HT_.out (by kernel_rfl)) (fun _ _ _ h => h) (Or.inl ⟨by rfl, ?_⟩) ?_ ?_
      rotate_left
      ·intro w'
       go_simp
       with_reducible rfl
      rotate_left
      ·simp only [Act.put, List.setIfInBounds_toArray, List.set_cons_zero, List.set_cons_succ, i64_w, i32_w]
       rfl
      refine pure_ (i := 10) (N := some 31) (v := ?_) (a' := ?_) #[true, true, true, true, true, true, true, true, true, false, true, false, false, false, false, false, false, false, false, false, false, false, false, false, false, false, false, false, false, false, false, false] rfl rfl (any_of HT_.out (by kernel_rfl)) (fun _ _ _ h => h) (Or.inl ⟨by rfl, ?_⟩) ?_ ?_
      rotate_left
      ·intro w'
       go_simp
       with_reducible rfl
      rotate_left
      ·simp only [Act.put, List.setIfInBounds_toArray, List.set_cons_zero, List.set_cons_succ, i64_w, i32_w]
       rfl
      refine one_ (i := 9) (N := some 30) #[true, true, true, true, true, true, true, true, true, true, true, false, false, false, false, false, false, false, false, false, false, false, false, false, false, false, false, false, false, false, false, false] rfl rfl (one_of HT_.out (by kernel_rfl)) (by decide) (fun K hK => ?_)
      refine goes_ Try.func17 (by kernel_rfl) rfl #[.slice Ao27 y153.length co27, .slice A34 y157.length c34] (by rfl) rfl rfl (by (try simp only [List.map_toArray, List.map_cons, List.map_nil]); first | done | rfl | (simp only [List.length_drop, List.length_take]; rfl)) ?_
      with_reducible refine (span_Union.calls _ _ y153 _ _ y157 t161 _ ?side1 ?side2 ?side3 ?side4 A17.out).mono ?_
      (case side1 => repeat (first | exact (by repeat (first | (with_reducible exact HR156.out) | (with_reducible refine Kd.C_alloc ?_ _) | (with_reducible refine Kd.C_drewN ?_ _) | (with_reducible refine Kd.C_drew ?_) | exact HR156.out)) | (with_reducible refine Kd.C_alloc ?_ _) | (with_reducible refine Kd.C_drewN ?_ _) | (with_reducible refine Kd.C_drew ?_)))
      (case side2 => exact HC156.out)
      (case side3 => repeat (first | exact (by repeat (first | (with_reducible exact HR160.out) | (with_reducible refine Kd.C_alloc ?_ _) | (with_reducible refine Kd.C_drewN ?_ _) | (with_reducible refine Kd.C_drew ?_) | exact HR160.out)) | (with_reducible refine Kd.C_alloc ?_ _) | (with_reducible refine Kd.C_drewN ?_ _) | (with_reducible refine Kd.C_drew ?_)))
      (case side4 => exact HC160.out)
      rintro e w35 ⟨v162, rfl, ho0, hb⟩
      refine ⟨_, rfl, ?_⟩
      have n0_ := Aside0.mk (Kd.R_elder' (rZ HO136.out) (Kd.R_base ho0) hb)
      have n1_ := Aside0.mk (Kd.R_elder' (rZ HO139.out) (Kd.R_base ho0) hb)
      have n2_ := Aside0.mk (Kd.R_elder' (rZ HO142.out) (Kd.R_base ho0) hb)
      have n3_ := Aside0.mk (Kd.R_elder' (rZ HO145.out) (Kd.R_base ho0) hb)
      have n4_ := Aside0.mk (Kd.R_elder' (rZ HO148.out) (Kd.R_base ho0) hb)
      have n5_ := Aside0.mk (Kd.R_elder' (rZ HO151.out) (Kd.R_base ho0) hb)
      have n6_ := Aside0.mk (Kd.R_lower (Kd.R_new' (Kd.R_new' (Kd.R_new' (Kd.R_new' (Kd.R_new' (Kd.R_new' ho0 (Kd.R_lt (rZ HO136.out))) (Kd.R_lt (rZ HO139.out))) (Kd.R_lt (rZ HO142.out))) (Kd.R_lt (rZ HO145.out))) (Kd.R_lt (rZ HO148.out))) (Kd.R_lt (rZ HO151.out))) (below_size (bZ HB.out)))
      have n7_ := Aside0.mk (Kd.C_below (by repeat (first | (with_reducible exact HR156.out) | (with_reducible refine Kd.C_alloc ?_ _) | (with_reducible refine Kd.C_drewN ?_ _) | (with_reducible refine Kd.C_drew ?_) | exact HR156.out)) hb)
      have n8_ := Aside0.mk (Kd.C_below (by repeat (first | (with_reducible exact HR160.out) | (with_reducible refine Kd.C_alloc ?_ _) | (with_reducible refine Kd.C_drewN ?_ _) | (with_reducible refine Kd.C_drew ?_) | exact HR160.out)) hb)
      have n9_ := Aside0.mk (below_step (bZ HB.out) hb)
      clear HO136
      clear HO139
      clear HO142
      clear HO145
      clear HO148
      clear HO151
      clear HR156
      clear HR160
      clear HB
      have HO136 := n0_
      have HO139 := n1_
      have HO142 := n2_
      have HO145 := n3_
      have HO148 := n4_
      have HO151 := n5_
      have HO163 := n6_
      have HR156 := n7_
      have HR160 := n8_
      have HB := n9_
      clear n0_ n1_ n2_ n3_ n4_ n5_ n6_ n7_ n8_ n9_
      (try clear hb)
      (try clear hb2)
      (try clear hk)
      (try clear hi)
      (try clear ho0)
      obtain ⟨Ao36, co36, eo36⟩ := Kd.R_slice HO163.out
      (first | subst eo36 | (injection eo36 with f1_ f2_ f3_; have f4_ := f1_.symm; have f5_ := f3_.symm; clear f1_ f2_ f3_; subst f4_; subst f5_))
      refine hK.out _ _ trivial (fun hHeld => ?_)
      clear hK K
      refine norm_ (a' := ?_) ?_ ?_
      rotate_left
      ·show Act.put _ (some 30) _ = _
       simp only [Act.put, List.setIfInBounds_toArray, List.set_cons_zero, List.set_cons_succ, i64_w, i32_w]
       rfl
      refine one_ (i := 11) (N := some 32) #[true, true, true, true, true, true, true, true, true, true, true, true, false, false, false, false, false, false, false, false, false, false, false, false, false, false, false, false, false, false, false, false] rfl rfl (one_of HT_.out (by kernel_rfl)) (by decide) (fun K hK => ?_)
      refine goes_ Try.func14 (by kernel_rfl) rfl #[.slice Ao36 t161.length co36, .slice Ao27 y137.length co27] (by rfl) rfl rfl (by (try simp only [List.map_toArray, List.map_cons, List.map_nil]); first | done | rfl | (simp only [List.length_drop, List.length_take]; rfl)) ?_
      with_reducible refine (r11_Same.calls k _ _ t161 _ _ y137 true _ ?side1 ?side2 ?side3 ?side4 A18.out).mono ?_
      (case side1 => repeat (first | exact (Kd.R_reads' HO163.out).2.2 | (with_reducible refine Kd.C_alloc ?_ _) | (with_reducible refine Kd.C_drewN ?_ _) | (with_reducible refine Kd.C_drew ?_)))
      (case side2 => exact (Kd.R_reads' HO163.out).2.1)
      (case side3 => repeat (first | exact (Kd.R_reads' HO139.out).2.2 | (with_reducible refine Kd.C_alloc ?_ _) | (with_reducible refine Kd.C_drewN ?_ _) | (with_reducible refine Kd.C_drew ?_)))
      (case side4 => exact (Kd.R_reads' HO139.out).2.1)
      rintro e w' ⟨rfl, ⟨nd, rfl⟩⟩
      refine ⟨_, rfl, ?_⟩
      refine hK.out _ _ trivial (fun hHeld => ?_)
      clear hK K
      refine norm_ (a' := ?_) ?_ ?_
      rotate_left
      ·show Act.put _ (some 32) _ = _
       simp only [Act.put, List.setIfInBounds_toArray, List.set_cons_zero, List.set_cons_succ, i64_w, i32_w]
       rfl
      refine pure_ (i := 12) (N := some 33) (v := ?_) (a' := ?_) #[true, true, true, true, true, true, true, true, true, true, true, true, true, false, false, false, false, false, false, false, false, false, false, false, false, false, false, false, false, false, false, false] rfl rfl (any_of HT_.out (by kernel_rfl)) (fun _ _ _ h => h) (Or.inl ⟨by rfl, ?_⟩) ?_ ?_
      rotate_left
      ·intro w'
       go_simp
       with_reducible rfl
      rotate_left
      ·simp only [Act.put, List.setIfInBounds_toArray, List.set_cons_zero, List.set_cons_succ, i64_w, i32_w]
       rfl
      refine pure_ (i := 13) (N := some 34) (v := ?_) (a' := ?_) #[true, true, true, true, true, true, true, true, true, true, true, true, true, true, false, false, false, false, false, false, false, false, false, false, false, false, false, false, false, false, false, false] rfl rfl (any_of HT_.out (by kernel_rfl)) (fun _ _ _ h => h) (Or.inl ⟨by rfl, ?_⟩) ?_ ?_
      rotate_left
      ·intro w'
       go_simp
       with_reducible rfl
      rotate_left
      ·simp only [Act.put, List.setIfInBounds_toArray, List.set_cons_zero, List.set_cons_succ, i64_w, i32_w]
       rfl
      refine pure_ (i := 14) (N := some 35) (v := ?_) (a' := ?_) #[true, true, true, true, true, true, true, true, true, true, true, true, true, true, true, false, false, false, false, false, false, false, false, false, false, false, false, false, false, false, false, false] rfl rfl (any_of HT_.out (by kernel_rfl)) (fun _ _ _ h => h) (Or.inl ⟨by rfl, ?_⟩) ?_ ?_
      rotate_left
      ·intro w'
       go_simp
       with_reducible rfl
      rotate_left
      ·simp only [Act.put, List.setIfInBounds_toArray, List.set_cons_zero, List.set_cons_succ, i64_w, i32_w]
       rfl
      refine pure_ (i := 15) (N := some 36) (v := ?_) (a' := ?_) #[true, true, true, true, true, true, true, true, true, true, true, true, true, true, true, true, false, false, false, false, false, false, false, false, false, false, false, false, false, false, false, false] rfl rfl (any_of HT_.out (by kernel_rfl)) (fun _ _ _ h => h) (Or.inl ⟨by rfl, ?_⟩) ?_ ?_
      rotate_left
      ·intro w'
       go_simp
       with_reducible rfl
      rotate_left
      ·simp only [Act.put, List.setIfInBounds_toArray, List.set_cons_zero, List.set_cons_succ, i64_w, i32_w]
       rfl
      refine pure_ (i := 17) (N := some 38) (v := ?_) (a' := ?_) #[true, true, true, true, true, true, true, true, true, true, true, true, true, true, true, true, false, true, false, false, false, false, false, false, false, false, false, false, false, false, false, false] rfl rfl (any_of HT_.out (by kernel_rfl)) (fun _ _ _ h => h) (Or.inl ⟨by rfl, ?_⟩) ?_ ?_
      rotate_left
      ·intro w'
       go_simp
       with_reducible rfl
      rotate_left
      ·simp only [Act.put, List.setIfInBounds_toArray, List.set_cons_zero, List.set_cons_succ, i64_w, i32_w]
       rfl
      refine pure_ (i := 18) (N := some 39) (v := ?_) (a' := ?_) #[true, true, true, true, true, true, true, true, true, true, true, true, true, true, true, true, false, true, true, false, false, false, false, false, false, false, false, false, false, false, false, false] rfl rfl (any_of HT_.out (by kernel_rfl)) (fun _ _ _ h => h) (Or.inl ⟨by rfl, ?_⟩) ?_ ?_
      rotate_left
      ·intro w'
       go_simp
       with_reducible rfl
      rotate_left
      ·simp only [Act.put, List.setIfInBounds_toArray, List.set_cons_zero, List.set_cons_succ, i64_w, i32_w]
       rfl
      refine join_ (σ := Value × Value × Value × Value) 3 #[true, true, true, true, true, true, true, true, true, true, true, true, true, true, true, true, true, true, true, true, true, true, true, true, true, true, true, true, true, false, false, false] (fun s_ => [(37, s_.1), (40, s_.2.1), (41, .bool true), (46, s_.2.2.1), (49, s_.2.2.2), (42, .bool true), (43, .bool true), (44, .slice Ao29 y143.length co29), (45, .slice Ao28 y140.length co28), (47, .agg #[.int .i64 1, .int .i64 2]), (48, .agg #[.int .i64 6, .int .i64 9])]) (fun s_ w' => (Kd.R k24 24 w' w.heap.size (fun k_ => some k_ ≠ (.slice Ao27 y137.length co27 : Value).ownBlock ∧ some k_ ≠ (.slice Ao28 y140.length co28 : Value).ownBlock ∧ some k_ ≠ (.slice Ao29 y143.length co29 : Value).ownBlock ∧ some k_ ≠ (.slice Ao26 y146.length co26 : Value).ownBlock ∧ some k_ ≠ (.slice Ao32 t149.length co32 : Value).ownBlock ∧ some k_ ≠ (.slice Ao36 t161.length co36 : Value).ownBlock ∧ some k_ ≠ (s_.1 : Value).ownBlock ∧ some k_ ≠ (s_.2.1 : Value).ownBlock ∧ some k_ ≠ (s_.2.2.1 : Value).ownBlock ∧ some k_ ≠ (s_.2.2.2 : Value).ownBlock) (.slice Ao25 y134.length co25) y134) ∧ (Kd.R k24 24 w' w.heap.size (fun k_ => some k_ ≠ (.slice Ao25 y134.length co25 : Value).ownBlock ∧ some k_ ≠ (.slice Ao28 y140.length co28 : Value).ownBlock ∧ some k_ ≠ (.slice Ao29 y143.length co29 : Value).ownBlock ∧ some k_ ≠ (.slice Ao26 y146.length co26 : Value).ownBlock ∧ some k_ ≠ (.slice Ao32 t149.length co32 : Value).ownBlock ∧ some k_ ≠ (.slice Ao36 t161.length co36 : Value).ownBlock ∧ some k_ ≠ (s_.1 : Value).ownBlock ∧ some k_ ≠ (s_.2.1 : Value).ownBlock ∧ some k_ ≠ (s_.2.2.1 : Value).ownBlock ∧ some k_ ≠ (s_.2.2.2 : Value).ownBlock) (.slice Ao27 y137.length co27) y137) ∧ (Kd.R k24 24 w' w.heap.size (fun k_ => some k_ ≠ (.slice Ao25 y134.length co25 : Value).ownBlock ∧ some k_ ≠ (.slice Ao27 y137.length co27 : Value).ownBlock ∧ some k_ ≠ (.slice Ao29 y143.length co29 : Value).ownBlock ∧ some k_ ≠ (.slice Ao26 y146.length co26 : Value).ownBlock ∧ some k_ ≠ (.slice Ao32 t149.length co32 : Value).ownBlock ∧ some k_ ≠ (.slice Ao36 t161.length co36 : Value).ownBlock ∧ some k_ ≠ (s_.1 : Value).ownBlock ∧ some k_ ≠ (s_.2.1 : Value).ownBlock ∧ some k_ ≠ (s_.2.2.1 : Value).ownBlock ∧ some k_ ≠ (s_.2.2.2 : Value).ownBlock) (.slice Ao28 y140.length co28) y140) ∧ (Kd.R k24 24 w' w.heap.size (fun k_ => some k_ ≠ (.slice Ao25 y134.length co25 : Value).ownBlock ∧ some k_ ≠ (.slice Ao27 y137.length co27 : Value).ownBlock ∧ some k_ ≠ (.slice Ao28 y140.length co28 : Value).ownBlock ∧ some k_ ≠ (.slice Ao26 y146.length co26 : Value).ownBlock ∧ some k_ ≠ (.slice Ao32 t149.length co32 : Value).ownBlock ∧ some k_ ≠ (.slice Ao36 t161.length co36 : Value).ownBlock ∧ some k_ ≠ (s_.1 : Value).ownBlock ∧ some k_ ≠ (s_.2.1 : Value).ownBlock ∧ some k_ ≠ (s_.2.2.1 : Value).ownBlock ∧ some k_ ≠ (s_.2.2.2 : Value).ownBlock) (.slice Ao29 y143.length co29) y143) ∧ (Kd.R k24 24 w' w.heap.size (fun k_ => some k_ ≠ (.slice Ao25 y134.length co25 : Value).ownBlock ∧ some k_ ≠ (.slice Ao27 y137.length co27 : Value).ownBlock ∧ some k_ ≠ (.slice Ao28 y140.length co28 : Value).ownBlock ∧ some k_ ≠ (.slice Ao29 y143.length co29 : Value).ownBlock ∧ some k_ ≠ (.slice Ao32 t149.length co32 : Value).ownBlock ∧ some k_ ≠ (.slice Ao36 t161.length co36 : Value).ownBlock ∧ some k_ ≠ (s_.1 : Value).ownBlock ∧ some k_ ≠ (s_.2.1 : Value).ownBlock ∧ some k_ ≠ (s_.2.2.1 : Value).ownBlock ∧ some k_ ≠ (s_.2.2.2 : Value).ownBlock) (.slice Ao26 y146.length co26) y146) ∧ (Kd.R k24 24 w' w.heap.size (fun k_ => some k_ ≠ (.slice Ao25 y134.length co25 : Value).ownBlock ∧ some k_ ≠ (.slice Ao27 y137.length co27 : Value).ownBlock ∧ some k_ ≠ (.slice Ao28 y140.length co28 : Value).ownBlock ∧ some k_ ≠ (.slice Ao29 y143.length co29 : Value).ownBlock ∧ some k_ ≠ (.slice Ao26 y146.length co26 : Value).ownBlock ∧ some k_ ≠ (.slice Ao36 t161.length co36 : Value).ownBlock ∧ some k_ ≠ (s_.1 : Value).ownBlock ∧ some k_ ≠ (s_.2.1 : Value).ownBlock ∧ some k_ ≠ (s_.2.2.1 : Value).ownBlock ∧ some k_ ≠ (s_.2.2.2 : Value).ownBlock) (.slice Ao32 t149.length co32) t149) ∧ (Kd.R k24 24 w' w.heap.size (fun k_ => some k_ ≠ (.slice Ao25 y134.length co25 : Value).ownBlock ∧ some k_ ≠ (.slice Ao27 y137.length co27 : Value).ownBlock ∧ some k_ ≠ (.slice Ao28 y140.length co28 : Value).ownBlock ∧ some k_ ≠ (.slice Ao29 y143.length co29 : Value).ownBlock ∧ some k_ ≠ (.slice Ao26 y146.length co26 : Value).ownBlock ∧ some k_ ≠ (.slice Ao32 t149.length co32 : Value).ownBlock ∧ some k_ ≠ (s_.1 : Value).ownBlock ∧ some k_ ≠ (s_.2.1 : Value).ownBlock ∧ some k_ ≠ (s_.2.2.1 : Value).ownBlock ∧ some k_ ≠ (s_.2.2.2 : Value).ownBlock) (.slice Ao36 t161.length co36) t161) ∧ (Kd.R k24 24 w' w.heap.size (fun k_ => some k_ ≠ (.slice Ao25 y134.length co25 : Value).ownBlock ∧ some k_ ≠ (.slice Ao27 y137.length co27 : Value).ownBlock ∧ some k_ ≠ (.slice Ao28 y140.length co28 : Value).ownBlock ∧ some k_ ≠ (.slice Ao29 y143.length co29 : Value).ownBlock ∧ some k_ ≠ (.slice Ao26 y146.length co26 : Value).ownBlock ∧ some k_ ≠ (.slice Ao32 t149.length co32 : Value).ownBlock ∧ some k_ ≠ (.slice Ao36 t161.length co36 : Value).ownBlock ∧ some k_ ≠ (s_.2.1 : Value).ownBlock ∧ some k_ ≠ (s_.2.2.1 : Value).ownBlock ∧ some k_ ≠ (s_.2.2.2 : Value).ownBlock) s_.1 t165) ∧ (Kd.R k24 24 w' w.heap.size (fun k_ => some k_ ≠ (.slice Ao25 y134.length co25 : Value).ownBlock ∧ some k_ ≠ (.slice Ao27 y137.length co27 : Value).ownBlock ∧ some k_ ≠ (.slice Ao28 y140.length co28 : Value).ownBlock ∧ some k_ ≠ (.slice Ao29 y143.length co29 : Value).ownBlock ∧ some k_ ≠ (.slice Ao26 y146.length co26 : Value).ownBlock ∧ some k_ ≠ (.slice Ao32 t149.length co32 : Value).ownBlock ∧ some k_ ≠ (.slice Ao36 t161.length co36 : Value).ownBlock ∧ some k_ ≠ (s_.1 : Value).ownBlock ∧ some k_ ≠ (s_.2.2.1 : Value).ownBlock ∧ some k_ ≠ (s_.2.2.2 : Value).ownBlock) s_.2.1 y168) ∧ (Kd.R k24 24 w' w.heap.size (fun k_ => some k_ ≠ (.slice Ao25 y134.length co25 : Value).ownBlock ∧ some k_ ≠ (.slice Ao27 y137.length co27 : Value).ownBlock ∧ some k_ ≠ (.slice Ao28 y140.length co28 : Value).ownBlock ∧ some k_ ≠ (.slice Ao29 y143.length co29 : Value).ownBlock ∧ some k_ ≠ (.slice Ao26 y146.length co26 : Value).ownBlock ∧ some k_ ≠ (.slice Ao32 t149.length co32 : Value).ownBlock ∧ some k_ ≠ (.slice Ao36 t161.length co36 : Value).ownBlock ∧ some k_ ≠ (s_.1 : Value).ownBlock ∧ some k_ ≠ (s_.2.1 : Value).ownBlock ∧ some k_ ≠ (s_.2.2.2 : Value).ownBlock) s_.2.2.1 t172) ∧ (Kd.R k24 24 w' w.heap.size (fun k_ => some k_ ≠ (.slice Ao25 y134.length co25 : Value).ownBlock ∧ some k_ ≠ (.slice Ao27 y137.length co27 : Value).ownBlock ∧ some k_ ≠ (.slice Ao28 y140.length co28 : Value).ownBlock ∧ some k_ ≠ (.slice Ao29 y143.length co29 : Value).ownBlock ∧ some k_ ≠ (.slice Ao26 y146.length co26 : Value).ownBlock ∧ some k_ ≠ (.slice Ao32 t149.length co32 : Value).ownBlock ∧ some k_ ≠ (.slice Ao36 t161.length co36 : Value).ownBlock ∧ some k_ ≠ (s_.1 : Value).ownBlock ∧ some k_ ≠ (s_.2.1 : Value).ownBlock ∧ some k_ ≠ (s_.2.2.1 : Value).ownBlock) s_.2.2.2 y175) ∧ (Below w.heap.size w w')) ?_ ?_
      rotate_left
      ·intro hCont
       refine two_ (i := 16) (j := 19) (Ni := some 37) (Nj := some 40) #[true, true, true, true, true, true, true, true, true, true, true, true, true, true, true, true, true, true, true, false, false, false, false, false, false, false, false, false, false, false, false, false] #[true, true, true, true, true, true, true, true, true, true, true, true, true, true, true, true, false, true, true, true, false, false, false, false, false, false, false, false, false, false, false, false] rfl rfl rfl rfl (two_of HT_.out (by kernel_rfl)) (by decide) (by decide) (fun K hK => ?_) (fun K hK => ?_)
       ·skip
        refine goes_ Try.func19 (by kernel_rfl) rfl #[.slice Ao27 y137.length co27, .slice Ao28 y140.length co28] (by rfl) rfl rfl (by (try simp only [List.map_toArray, List.map_cons, List.map_nil]); first | done | rfl | (simp only [List.length_drop, List.length_take]; rfl)) ?_
        with_reducible refine (span_Meet.calls _ _ y137 _ _ y140 t165 _ ?side1 ?side2 ?side3 ?side4 A20.out).mono ?_
        (case side1 => repeat (first | exact (Kd.R_reads' HO139.out).2.2 | (with_reducible refine Kd.C_alloc ?_ _) | (with_reducible refine Kd.C_drewN ?_ _) | (with_reducible refine Kd.C_drew ?_)))
        (case side2 => exact (Kd.R_reads' HO139.out).2.1)
        (case side3 => repeat (first | exact (Kd.R_reads' HO142.out).2.2 | (with_reducible refine Kd.C_alloc ?_ _) | (with_reducible refine Kd.C_drewN ?_ _) | (with_reducible refine Kd.C_drew ?_)))
        (case side4 => exact (Kd.R_reads' HO142.out).2.1)
        rintro e w37 ⟨v166, rfl, ho0, hb⟩
        refine ⟨_, rfl, ?_⟩
        have n0_ := Aside0.mk (Kd.R_elder' (rZ HO136.out) (Kd.R_base ho0) hb)
        have n1_ := Aside0.mk (Kd.R_elder' (rZ HO139.out) (Kd.R_base ho0) hb)
        have n2_ := Aside0.mk (Kd.R_elder' (rZ HO142.out) (Kd.R_base ho0) hb)
        have n3_ := Aside0.mk (Kd.R_elder' (rZ HO145.out) (Kd.R_base ho0) hb)
        have n4_ := Aside0.mk (Kd.R_elder' (rZ HO148.out) (Kd.R_base ho0) hb)
        have n5_ := Aside0.mk (Kd.R_elder' (rZ HO151.out) (Kd.R_base ho0) hb)
        have n6_ := Aside0.mk (Kd.R_elder' (rZ HO163.out) (Kd.R_base ho0) hb)
        have n7_ := Aside0.mk (Kd.R_lower (Kd.R_new' (Kd.R_new' (Kd.R_new' (Kd.R_new' (Kd.R_new' (Kd.R_new' (Kd.R_new' ho0 (Kd.R_lt (rZ HO136.out))) (Kd.R_lt (rZ HO139.out))) (Kd.R_lt (rZ HO142.out))) (Kd.R_lt (rZ HO145.out))) (Kd.R_lt (rZ HO148.out))) (Kd.R_lt (rZ HO151.out))) (Kd.R_lt (rZ HO163.out))) (below_size (bZ HB.out)))
        have n8_ := Aside0.mk (Kd.C_below (by repeat (first | (with_reducible exact HR156.out) | (with_reducible refine Kd.C_alloc ?_ _) | (with_reducible refine Kd.C_drewN ?_ _) | (with_reducible refine Kd.C_drew ?_) | exact HR156.out)) hb)
        have n9_ := Aside0.mk (Kd.C_below (by repeat (first | (with_reducible exact HR160.out) | (with_reducible refine Kd.C_alloc ?_ _) | (with_reducible refine Kd.C_drewN ?_ _) | (with_reducible refine Kd.C_drew ?_) | exact HR160.out)) hb)
        have n10_ := Aside0.mk (below_step (bZ HB.out) hb)
        clear HO136
        clear HO139
        clear HO142
        clear HO145
        clear HO148
        clear HO151
        clear HO163
        clear HR156
        clear HR160
        clear HB
        have HO136 := n0_
        have HO139 := n1_
        have HO142 := n2_
        have HO145 := n3_
        have HO148 := n4_
        have HO151 := n5_
        have HO163 := n6_
        have HO167 := n7_
        have HR156 := n8_
        have HR160 := n9_
        have HB := n10_
        clear n0_ n1_ n2_ n3_ n4_ n5_ n6_ n7_ n8_ n9_ n10_
        (try clear hb)
        (try clear hb2)
        (try clear hk)
        (try clear hi)
        (try clear ho0)
        refine hK.out _ _ trivial (fun hHeld => ?_)
        clear hK K
        refine norm_ (a' := ?_) ?_ ?_
        rotate_left
        ·show Act.put _ (some 37) _ = _
         simp only [Act.put, List.setIfInBounds_toArray, List.set_cons_zero, List.set_cons_succ, i64_w, i32_w]
         rfl
        refine one_ (i := 19) (N := some 40) #[true, true, true, true, true, true, true, true, true, true, true, true, true, true, true, true, true, true, true, true, false, false, false, false, false, false, false, false, false, false, false, false] rfl rfl (one_of HT_.out (by kernel_rfl)) (by decide) (fun K hK => ?_)
        refine Kd.R_lit_step k24 _ 24 ?hg (N := 40) ?hd (xs := ([(⟨2, 3⟩ : S24), (⟨5, 6⟩ : S24)] : List (S24))) (inner := [.int .i64 2, .int .i64 3, .int .i64 5, .int .i64 6]) (ok := fun _ => True) (okp := fun _ => True) ?hr ?hp (fun _ hk => hk) trivial (Below.refl _ _) (Nat.le_refl _) (by simp) ?_; (case hd => rfl); (case hg => rfl); (case hr => first | (go_simp; done) | (go_simp; rfl)); (case hp => exact (Reps.c2 (show Kd.M k24 _ _ _ (⟨2, 3⟩ : S24) [.int .i64 2, .int .i64 3] from (k24_mkM _ _ _ (⟨2, 3⟩ : S24) )) (Reps.c2 (show Kd.M k24 _ _ _ (⟨5, 6⟩ : S24) [.int .i64 5, .int .i64 6] from (k24_mkM _ _ _ (⟨5, 6⟩ : S24) )) (Reps.none _ _))))
        intro v169 w38 ho39 hb hg_ hnew_
        clear hg_ hnew_
        (first | rw [← Ny168.out] at ho39 | (simp only [Int.reduceToNat] at ho39; rw [← Ny168.out] at ho39))
        have n0_ := Aside0.mk (Kd.R_elder' (rZ HO136.out) (Kd.R_base ho39) hb)
        have n1_ := Aside0.mk (Kd.R_elder' (rZ HO139.out) (Kd.R_base ho39) hb)
        have n2_ := Aside0.mk (Kd.R_elder' (rZ HO142.out) (Kd.R_base ho39) hb)
        have n3_ := Aside0.mk (Kd.R_elder' (rZ HO145.out) (Kd.R_base ho39) hb)
        have n4_ := Aside0.mk (Kd.R_elder' (rZ HO148.out) (Kd.R_base ho39) hb)
        have n5_ := Aside0.mk (Kd.R_elder' (rZ HO151.out) (Kd.R_base ho39) hb)
        have n6_ := Aside0.mk (Kd.R_elder' (rZ HO163.out) (Kd.R_base ho39) hb)
        have n7_ := Aside0.mk (Kd.R_elder' (rZ HO167.out) (Kd.R_base ho39) hb)
        have n8_ := Aside0.mk (Kd.R_lower (Kd.R_new' (Kd.R_new' (Kd.R_new' (Kd.R_new' (Kd.R_new' (Kd.R_new' (Kd.R_new' (Kd.R_new' ho39 (Kd.R_lt (rZ HO136.out))) (Kd.R_lt (rZ HO139.out))) (Kd.R_lt (rZ HO142.out))) (Kd.R_lt (rZ HO145.out))) (Kd.R_lt (rZ HO148.out))) (Kd.R_lt (rZ HO151.out))) (Kd.R_lt (rZ HO163.out))) (Kd.R_lt (rZ HO167.out))) (below_size (bZ HB.out)))
        have n9_ := Aside0.mk (Kd.C_below (by repeat (first | (with_reducible exact HR156.out) | (with_reducible refine Kd.C_alloc ?_ _) | (with_reducible refine Kd.C_drewN ?_ _) | (with_reducible refine Kd.C_drew ?_) | exact HR156.out)) hb)
        have n10_ := Aside0.mk (Kd.C_below (by repeat (first | (with_reducible exact HR160.out) | (with_reducible refine Kd.C_alloc ?_ _) | (with_reducible refine Kd.C_drewN ?_ _) | (with_reducible refine Kd.C_drew ?_) | exact HR160.out)) hb)
        have n11_ := Aside0.mk (below_step (bZ HB.out) hb)
        clear HO136
        clear HO139
        clear HO142
        clear HO145
        clear HO148
        clear HO151
        clear HO163
        clear HO167
        clear HR156
        clear HR160
        clear HB
        have HO136 := n0_
        have HO139 := n1_
        have HO142 := n2_
        have HO145 := n3_
        have HO148 := n4_
        have HO151 := n5_
        have HO163 := n6_
        have HO167 := n7_
        have HO170 := n8_
        have HR156 := n9_
        have HR160 := n10_
        have HB := n11_
        clear n0_ n1_ n2_ n3_ n4_ n5_ n6_ n7_ n8_ n9_ n10_ n11_
        clear hb ho39
        obtain ⟨Ao40, co40, eo40⟩ := Kd.R_slice HO167.out
        (first | subst eo40 | (injection eo40 with f1_ f2_ f3_; have f4_ := f1_.symm; have f5_ := f3_.symm; clear f1_ f2_ f3_; subst f4_; subst f5_))
        obtain ⟨Ao41, co41, eo41⟩ := Kd.R_slice HO170.out
        (first | subst eo41 | (injection eo41 with f1_ f2_ f3_; have f4_ := f1_.symm; have f5_ := f3_.symm; clear f1_ f2_ f3_; subst f4_; subst f5_))
        refine hK.out _ _ trivial (fun hHeld => ?_)
        clear hK K
        refine norm_ (a' := ?_) ?_ ?_
        rotate_left
        ·show Act.put _ (some 40) _ = _
         simp only [Act.put, List.setIfInBounds_toArray, List.set_cons_zero, List.set_cons_succ, i64_w, i32_w]
         rfl
        refine one_ (i := 20) (N := some 41) #[true, true, true, true, true, true, true, true, true, true, true, true, true, true, true, true, true, true, true, true, true, false, false, false, false, false, false, false, false, false, false, false] rfl rfl (one_of HT_.out (by kernel_rfl)) (by decide) (fun K hK => ?_)
        refine goes_ Try.func14 (by kernel_rfl) rfl #[.slice Ao40 t165.length co40, .slice Ao41 y168.length co41] (by rfl) rfl rfl (by (try simp only [List.map_toArray, List.map_cons, List.map_nil]); first | done | rfl | (simp only [List.length_drop, List.length_take]; rfl)) ?_
        with_reducible refine (r11_Same.calls k _ _ t165 _ _ y168 true _ ?side1 ?side2 ?side3 ?side4 A21.out).mono ?_
        (case side1 => repeat (first | exact (Kd.R_reads' HO167.out).2.2 | (with_reducible refine Kd.C_alloc ?_ _) | (with_reducible refine Kd.C_drewN ?_ _) | (with_reducible refine Kd.C_drew ?_)))
        (case side2 => exact (Kd.R_reads' HO167.out).2.1)
        (case side3 => repeat (first | exact (Kd.R_reads' HO170.out).2.2 | (with_reducible refine Kd.C_alloc ?_ _) | (with_reducible refine Kd.C_drewN ?_ _) | (with_reducible refine Kd.C_drew ?_)))
        (case side4 => exact (Kd.R_reads' HO170.out).2.1)
        rintro e w' ⟨rfl, ⟨nd, rfl⟩⟩
        refine ⟨_, rfl, ?_⟩
        refine hK.out _ _ trivial (fun hHeld => ?_)
        clear hK K
        refine norm_ (a' := ?_) ?_ ?_
        rotate_left
        ·show Act.put _ (some 41) _ = _
         simp only [Act.put, List.setIfInBounds_toArray, List.set_cons_zero, List.set_cons_succ, i64_w, i32_w]
         rfl
        refine pure_ (i := 21) (N := some 42) (v := ?_) (a' := ?_) #[true, true, true, true, true, true, true, true, true, true, true, true, true, true, true, true, true, true, true, true, true, true, false, false, false, false, false, false, false, false, false, false] rfl rfl (any_of HT_.out (by kernel_rfl)) (fun _ _ _ h => h) (Or.inl ⟨by rfl, ?_⟩) ?_ ?_
        rotate_left
        ·intro w'
         go_simp
         with_reducible rfl
        rotate_left
        ·simp only [Act.put, List.setIfInBounds_toArray, List.set_cons_zero, List.set_cons_succ, i64_w, i32_w]
         rfl
        refine pure_ (i := 22) (N := some 43) (v := ?_) (a' := ?_) #[true, true, true, true, true, true, true, true, true, true, true, true, true, true, true, true, true, true, true, true, true, true, true, false, false, false, false, false, false, false, false, false] rfl rfl (any_of HT_.out (by kernel_rfl)) (fun _ _ _ h => h) (Or.inl ⟨by rfl, ?_⟩) ?_ ?_
        rotate_left
        ·intro w'
         go_simp
         with_reducible rfl
        rotate_left
        ·simp only [Act.put, List.setIfInBounds_toArray, List.set_cons_zero, List.set_cons_succ, i64_w, i32_w]
         rfl
        refine pure_ (i := 23) (N := some 44) (v := ?_) (a' := ?_) #[true, true, true, true, true, true, true, true, true, true, true, true, true, true, true, true, true, true, true, true, true, true, true, true, false, false, false, false, false, false, false, false] rfl rfl (any_of HT_.out (by kernel_rfl)) (fun _ _ _ h => h) (Or.inl ⟨by rfl, ?_⟩) ?_ ?_
        rotate_left
        ·intro w'
         go_simp
         with_reducible rfl
        rotate_left
        ·simp only [Act.put, List.setIfInBounds_toArray, List.set_cons_zero, List.set_cons_succ, i64_w, i32_w]
         rfl
        refine pure_ (i := 24) (N := some 45) (v := ?_) (a' := ?_) #[true, true, true, true, true, true, true, true, true, true, true, true, true, true, true, true, true, true, true, true, true, true, true, true, true, false, false, false, false, false, false, false] rfl rfl (any_of HT_.out (by kernel_rfl)) (fun _ _ _ h => h) (Or.inl ⟨by rfl, ?_⟩) ?_ ?_
        rotate_left
        ·intro w'
         go_simp
         with_reducible rfl
        rotate_left
        ·simp only [Act.put, List.setIfInBounds_toArray, List.set_cons_zero, List.set_cons_succ, i64_w, i32_w]
         rfl
        refine pure_ (i := 26) (N := some 47) (v := ?_) (a' := ?_) #[true, true, true, true, true, true, true, true, true, true, true, true, true, true, true, true, true, true, true, true, true, true, true, true, true, false, true, false, false, false, false, false] rfl rfl (any_of HT_.out (by kernel_rfl)) (fun _ _ _ h => h) (Or.inl ⟨by rfl, ?_⟩) ?_ ?_
        rotate_left
        ·intro w'
         go_simp
         with_reducible rfl
        rotate_left
        ·simp only [Act.put, List.setIfInBounds_toArray, List.set_cons_zero, List.set_cons_succ, i64_w, i32_w]
         rfl
        refine pure_ (i := 27) (N := some 48) (v := ?_) (a' := ?_) #[true, true, true, true, true, true, true, true, true, true, true, true, true, true, true, true, true, true, true, true, true, true, true, true, true, false, true, true, false, false, false, false] rfl rfl (any_of HT_.out (by kernel_rfl)) (fun _ _ _ h => h) (Or.inl ⟨by rfl, ?_⟩) ?_ ?_
        rotate_left
        ·intro w'
         go_simp
         with_reducible rfl
        rotate_left
        ·simp only [Act.put, List.setIfInBounds_toArray, List.set_cons_zero, List.set_cons_succ, i64_w, i32_w]
         rfl
        refine two_ (i := 25) (j := 28) (Ni := some 46) (Nj := some 49) #[true, true, true, true, true, true, true, true, true, true, true, true, true, true, true, true, true, true, true, true, true, true, true, true, true, true, true, true, false, false, false, false] #[true, true, true, true, true, true, true, true, true, true, true, true, true, true, true, true, true, true, true, true, true, true, true, true, true, false, true, true, true, false, false, false] rfl rfl rfl rfl (two_of HT_.out (by kernel_rfl)) (by decide) (by decide) (fun K hK => ?_) (fun K hK => ?_)
        ·skip
         refine goes_ Try.func21 (by kernel_rfl) rfl #[.slice Ao29 y143.length co29, .slice Ao28 y140.length co28] (by rfl) rfl rfl (by (try simp only [List.map_toArray, List.map_cons, List.map_nil]); first | done | rfl | (simp only [List.length_drop, List.length_take]; rfl)) ?_
         with_reducible refine (span_Minus.calls _ _ y143 _ _ y140 t172 _ ?side1 ?side2 ?side3 ?side4 A23.out).mono ?_
         (case side1 => repeat (first | exact (Kd.R_reads' HO145.out).2.2 | (with_reducible refine Kd.C_alloc ?_ _) | (with_reducible refine Kd.C_drewN ?_ _) | (with_reducible refine Kd.C_drew ?_)))
         (case side2 => exact (Kd.R_reads' HO145.out).2.1)
         (case side3 => repeat (first | exact (Kd.R_reads' HO142.out).2.2 | (with_reducible refine Kd.C_alloc ?_ _) | (with_reducible refine Kd.C_drewN ?_ _) | (with_reducible refine Kd.C_drew ?_)))
         (case side4 => exact (Kd.R_reads' HO142.out).2.1)
         rintro e w42 ⟨v173, rfl, ho0, hb⟩
         refine ⟨_, rfl, ?_⟩
         have n0_ := Aside0.mk (Kd.R_elder' (rZ HO136.out) (Kd.R_base ho0) hb)
         have n1_ := Aside0.mk (Kd.R_elder' (rZ HO139.out) (Kd.R_base ho0) hb)
         have n2_ := Aside0.mk (Kd.R_elder' (rZ HO142.out) (Kd.R_base ho0) hb)
         have n3_ := Aside0.mk (Kd.R_elder' (rZ HO145.out) (Kd.R_base ho0) hb)
         have n4_ := Aside0.mk (Kd.R_elder' (rZ HO148.out) (Kd.R_base ho0) hb)
         have n5_ := Aside0.mk (Kd.R_elder' (rZ HO151.out) (Kd.R_base ho0) hb)
         have n6_ := Aside0.mk (Kd.R_elder' (rZ HO163.out) (Kd.R_base ho0) hb)
         have n7_ := Aside0.mk (Kd.R_elder' (rZ HO167.out) (Kd.R_base ho0) hb)
         have n8_ := Aside0.mk (Kd.R_elder' (rZ HO170.out) (Kd.R_base ho0) hb)
         have n9_ := Aside0.mk (Kd.R_lower (Kd.R_new' (Kd.R_new' (Kd.R_new' (Kd.R_new' (Kd.R_new' (Kd.R_new' (Kd.R_new' (Kd.R_new' (Kd.R_new' ho0 (Kd.R_lt (rZ HO136.out))) (Kd.R_lt (rZ HO139.out))) (Kd.R_lt (rZ HO142.out))) (Kd.R_lt (rZ HO145.out))) (Kd.R_lt (rZ HO148.out))) (Kd.R_lt (rZ HO151.out))) (Kd.R_lt (rZ HO163.out))) (Kd.R_lt (rZ HO167.out))) (Kd.R_lt (rZ HO170.out))) (below_size (bZ HB.out)))
         have n10_ := Aside0.mk (Kd.C_below (by repeat (first | (with_reducible exact HR156.out) | (with_reducible refine Kd.C_alloc ?_ _) | (with_reducible refine Kd.C_drewN ?_ _) | (with_reducible refine Kd.C_drew ?_) | exact HR156.out)) hb)
         have n11_ := Aside0.mk (Kd.C_below (by repeat (first | (with_reducible exact HR160.out) | (with_reducible refine Kd.C_alloc ?_ _) | (with_reducible refine Kd.C_drewN ?_ _) | (with_reducible refine Kd.C_drew ?_) | exact HR160.out)) hb)
         have n12_ := Aside0.mk (below_step (bZ HB.out) hb)
         clear HO136
         clear HO139
         clear HO142
         clear HO145
         clear HO148
         clear HO151
         clear HO163
         clear HO167
         clear HO170
         clear HR156
         clear HR160
         clear HB
         have HO136 := n0_
         have HO139 := n1_
         have HO142 := n2_
         have HO145 := n3_
         have HO148 := n4_
         have HO151 := n5_
         have HO163 := n6_
         have HO167 := n7_
         have HO170 := n8_
         have HO174 := n9_
         have HR156 := n10_
         have HR160 := n11_
         have HB := n12_
         clear n0_ n1_ n2_ n3_ n4_ n5_ n6_ n7_ n8_ n9_ n10_ n11_ n12_
         (try clear hb)
         (try clear hb2)
         (try clear hk)
         (try clear hi)
         (try clear ho0)
         refine hK.out _ _ trivial (fun hHeld => ?_)
         clear hK K
         refine norm_ (a' := ?_) ?_ ?_
         rotate_left
         ·show Act.put _ (some 46) _ = _
          simp only [Act.put, List.setIfInBounds_toArray, List.set_cons_zero, List.set_cons_succ, i64_w, i32_w]
          rfl
         refine one_ (i := 28) (N := some 49) #[true, true, true, true, true, true, true, true, true, true, true, true, true, true, true, true, true, true, true, true, true, true, true, true, true, true, true, true, true, false, false, false] rfl rfl (one_of HT_.out (by kernel_rfl)) (by decide) (fun K hK => ?_)
         refine Kd.R_lit_step k24 _ 24 ?hg (N := 49) ?hd (xs := ([(⟨1, 2⟩ : S24), (⟨6, 9⟩ : S24)] : List (S24))) (inner := [.int .i64 1, .int .i64 2, .int .i64 6, .int .i64 9]) (ok := fun _ => True) (okp := fun _ => True) ?hr ?hp (fun _ hk => hk) trivial (Below.refl _ _) (Nat.le_refl _) (by simp) ?_; (case hd => rfl); (case hg => rfl); (case hr => first | (go_simp; done) | (go_simp; rfl)); (case hp => exact (Reps.c2 (show Kd.M k24 _ _ _ (⟨1, 2⟩ : S24) [.int .i64 1, .int .i64 2] from (k24_mkM _ _ _ (⟨1, 2⟩ : S24) )) (Reps.c2 (show Kd.M k24 _ _ _ (⟨6, 9⟩ : S24) [.int .i64 6, .int .i64 9] from (k24_mkM _ _ _ (⟨6, 9⟩ : S24) )) (Reps.none _ _))))
         intro v176 w43 ho44 hb hg_ hnew_
         clear hg_ hnew_
         (first | rw [← Ny175.out] at ho44 | (simp only [Int.reduceToNat] at ho44; rw [← Ny175.out] at ho44))
         have n0_ := Aside0.mk (Kd.R_elder' (rZ HO136.out) (Kd.R_base ho44) hb)
         have n1_ := Aside0.mk (Kd.R_elder' (rZ HO139.out) (Kd.R_base ho44) hb)
         have n2_ := Aside0.mk (Kd.R_elder' (rZ HO142.out) (Kd.R_base ho44) hb)
         have n3_ := Aside0.mk (Kd.R_elder' (rZ HO145.out) (Kd.R_base ho44) hb)
         have n4_ := Aside0.mk (Kd.R_elder' (rZ HO148.out) (Kd.R_base ho44) hb)
         have n5_ := Aside0.mk (Kd.R_elder' (rZ HO151.out) (Kd.R_base ho44) hb)
         have n6_ := Aside0.mk (Kd.R_elder' (rZ HO163.out) (Kd.R_base ho44) hb)
         have n7_ := Aside0.mk (Kd.R_elder' (rZ HO167.out) (Kd.R_base ho44) hb)
         have n8_ := Aside0.mk (Kd.R_elder' (rZ HO170.out) (Kd.R_base ho44) hb)
         have n9_ := Aside0.mk (Kd.R_elder' (rZ HO174.out) (Kd.R_base ho44) hb)
         have n10_ := Aside0.mk (Kd.R_lower (Kd.R_new' (Kd.R_new' (Kd.R_new' (Kd.R_new' (Kd.R_new' (Kd.R_new' (Kd.R_new' (Kd.R_new' (Kd.R_new' (Kd.R_new' ho44 (Kd.R_lt (rZ HO136.out))) (Kd.R_lt (rZ HO139.out))) (Kd.R_lt (rZ HO142.out))) (Kd.R_lt (rZ HO145.out))) (Kd.R_lt (rZ HO148.out))) (Kd.R_lt (rZ HO151.out))) (Kd.R_lt (rZ HO163.out))) (Kd.R_lt (rZ HO167.out))) (Kd.R_lt (rZ HO170.out))) (Kd.R_lt (rZ HO174.out))) (below_size (bZ HB.out)))
         have n11_ := Aside0.mk (Kd.C_below (by repeat (first | (with_reducible exact HR156.out) | (with_reducible refine Kd.C_alloc ?_ _) | (with_reducible refine Kd.C_drewN ?_ _) | (with_reducible refine Kd.C_drew ?_) | exact HR156.out)) hb)
         have n12_ := Aside0.mk (Kd.C_below (by repeat (first | (with_reducible exact HR160.out) | (with_reducible refine Kd.C_alloc ?_ _) | (with_reducible refine Kd.C_drewN ?_ _) | (with_reducible refine Kd.C_drew ?_) | exact HR160.out)) hb)
         have n13_ := Aside0.mk (below_step (bZ HB.out) hb)
         clear HO136
         clear HO139
         clear HO142
         clear HO145
         clear HO148
         clear HO151
         clear HO163
         clear HO167
         clear HO170
         clear HO174
         clear HR156
         clear HR160
         clear HB
         have HO136 := n0_
         have HO139 := n1_
         have HO142 := n2_
         have HO145 := n3_
         have HO148 := n4_
         have HO151 := n5_
         have HO163 := n6_
         have HO167 := n7_
         have HO170 := n8_
         have HO174 := n9_
         have HO177 := n10_
         have HR156 := n11_
         have HR160 := n12_
         have HB := n13_
         clear n0_ n1_ n2_ n3_ n4_ n5_ n6_ n7_ n8_ n9_ n10_ n11_ n12_ n13_
         clear hb ho44
         refine hK.out _ _ trivial (fun hHeld => ?_)
         clear hK K
         refine norm_ (a' := ?_) ?_ ?_
         rotate_left
         ·show Act.put _ (some 49) _ = _
          simp only [Act.put, List.setIfInBounds_toArray, List.set_cons_zero, List.set_cons_succ, i64_w, i32_w]
          rfl
         exact norm_ (by simp only [putAll, Act.put, List.setIfInBounds_toArray, List.set_cons_zero, List.set_cons_succ]) (hCont (.slice Ao40 t165.length co40, .slice Ao41 y168.length co41, v173, v176) _ ⟨(by (with_reducible repeat (first | apply Kd.R_alloc | apply Kd.R_drewN | apply Kd.R_drew)); exact Kd.R_mono HO136.out (fun _ hk => ⟨hk.1.1.1.1.1.1.1.1.1.2, ⟨hk.1.1.1.1.1.1.1.1.2, ⟨hk.1.1.1.1.1.1.1.2, ⟨hk.1.1.1.1.1.1.2, ⟨hk.1.1.1.1.1.2, ⟨hk.1.1.1.1.2, ⟨hk.1.1.1.2, ⟨hk.1.1.2, ⟨hk.1.2, hk.2⟩⟩⟩⟩⟩⟩⟩⟩⟩)), (by (with_reducible repeat (first | apply Kd.R_alloc | apply Kd.R_drewN | apply Kd.R_drew)); exact Kd.R_mono HO139.out (fun _ hk => ⟨hk.1.1.1.1.1.1.1.1.1.2, ⟨hk.1.1.1.1.1.1.1.1.2, ⟨hk.1.1.1.1.1.1.1.2, ⟨hk.1.1.1.1.1.1.2, ⟨hk.1.1.1.1.1.2, ⟨hk.1.1.1.1.2, ⟨hk.1.1.1.2, ⟨hk.1.1.2, ⟨hk.1.2, hk.2⟩⟩⟩⟩⟩⟩⟩⟩⟩)), (by (with_reducible repeat (first | apply Kd.R_alloc | apply Kd.R_drewN | apply Kd.R_drew)); exact Kd.R_mono HO142.out (fun _ hk => ⟨hk.1.1.1.1.1.1.1.1.1.2, ⟨hk.1.1.1.1.1.1.1.1.2, ⟨hk.1.1.1.1.1.1.1.2, ⟨hk.1.1.1.1.1.1.2, ⟨hk.1.1.1.1.1.2, ⟨hk.1.1.1.1.2, ⟨hk.1.1.1.2, ⟨hk.1.1.2, ⟨hk.1.2, hk.2⟩⟩⟩⟩⟩⟩⟩⟩⟩)), (by (with_reducible repeat (first | apply Kd.R_alloc | apply Kd.R_drewN | apply Kd.R_drew)); exact Kd.R_mono HO145.out (fun _ hk => ⟨hk.1.1.1.1.1.1.1.1.1.2, ⟨hk.1.1.1.1.1.1.1.1.2, ⟨hk.1.1.1.1.1.1.1.2, ⟨hk.1.1.1.1.1.1.2, ⟨hk.1.1.1.1.1.2, ⟨hk.1.1.1.1.2, ⟨hk.1.1.1.2, ⟨hk.1.1.2, ⟨hk.1.2, hk.2⟩⟩⟩⟩⟩⟩⟩⟩⟩)), (by (with_reducible repeat (first | apply Kd.R_alloc | apply Kd.R_drewN | apply Kd.R_drew)); exact Kd.R_mono HO148.out (fun _ hk => ⟨hk.1.1.1.1.1.1.1.1.1.2, ⟨hk.1.1.1.1.1.1.1.1.2, ⟨hk.1.1.1.1.1.1.1.2, ⟨hk.1.1.1.1.1.1.2, ⟨hk.1.1.1.1.1.2, ⟨hk.1.1.1.1.2, ⟨hk.1.1.1.2, ⟨hk.1.1.2, ⟨hk.1.2, hk.2⟩⟩⟩⟩⟩⟩⟩⟩⟩)), (by (with_reducible repeat (first | apply Kd.R_alloc | apply Kd.R_drewN | apply Kd.R_drew)); exact Kd.R_mono HO151.out (fun _ hk => ⟨hk.1.1.1.1.1.1.1.1.1.2, ⟨hk.1.1.1.1.1.1.1.1.2, ⟨hk.1.1.1.1.1.1.1.2, ⟨hk.1.1.1.1.1.1.2, ⟨hk.1.1.1.1.1.2, ⟨hk.1.1.1.1.2, ⟨hk.1.1.1.2, ⟨hk.1.1.2, ⟨hk.1.2, hk.2⟩⟩⟩⟩⟩⟩⟩⟩⟩)), (by (with_reducible repeat (first | apply Kd.R_alloc | apply Kd.R_drewN | apply Kd.R_drew)); exact Kd.R_mono HO163.out (fun _ hk => ⟨hk.1.1.1.1.1.1.1.1.1.2, ⟨hk.1.1.1.1.1.1.1.1.2, ⟨hk.1.1.1.1.1.1.1.2, ⟨hk.1.1.1.1.1.1.2, ⟨hk.1.1.1.1.1.2, ⟨hk.1.1.1.1.2, ⟨hk.1.1.1.2, ⟨hk.1.1.2, ⟨hk.1.2, hk.2⟩⟩⟩⟩⟩⟩⟩⟩⟩)), (by (with_reducible repeat (first | apply Kd.R_alloc | apply Kd.R_drewN | apply Kd.R_drew)); exact Kd.R_mono HO167.out (fun _ hk => ⟨hk.1.1.1.1.1.1.1.1.1.2, ⟨hk.1.1.1.1.1.1.1.1.2, ⟨hk.1.1.1.1.1.1.1.2, ⟨hk.1.1.1.1.1.1.2, ⟨hk.1.1.1.1.1.2, ⟨hk.1.1.1.1.2, ⟨hk.1.1.1.2, ⟨hk.1.1.2, ⟨hk.1.2, hk.2⟩⟩⟩⟩⟩⟩⟩⟩⟩)), (by (with_reducible repeat (first | apply Kd.R_alloc | apply Kd.R_drewN | apply Kd.R_drew)); exact Kd.R_mono HO170.out (fun _ hk => ⟨hk.1.1.1.1.1.1.1.1.1.2, ⟨hk.1.1.1.1.1.1.1.1.2, ⟨hk.1.1.1.1.1.1.1.2, ⟨hk.1.1.1.1.1.1.2, ⟨hk.1.1.1.1.1.2, ⟨hk.1.1.1.1.2, ⟨hk.1.1.1.2, ⟨hk.1.1.2, ⟨hk.1.2, hk.2⟩⟩⟩⟩⟩⟩⟩⟩⟩)), (by (with_reducible repeat (first | apply Kd.R_alloc | apply Kd.R_drewN | apply Kd.R_drew)); exact Kd.R_mono HO174.out (fun _ hk => ⟨hk.1.1.1.1.1.1.1.1.1.2, ⟨hk.1.1.1.1.1.1.1.1.2, ⟨hk.1.1.1.1.1.1.1.2, ⟨hk.1.1.1.1.1.1.2, ⟨hk.1.1.1.1.1.2, ⟨hk.1.1.1.1.2, ⟨hk.1.1.1.2, ⟨hk.1.1.2, ⟨hk.1.2, hk.2⟩⟩⟩⟩⟩⟩⟩⟩⟩)), (by (with_reducible repeat (first | apply Kd.R_alloc | apply Kd.R_drewN | apply Kd.R_drew)); exact Kd.R_mono HO177.out (fun _ hk => ⟨hk.1.1.1.1.1.1.1.1.1.2, ⟨hk.1.1.1.1.1.1.1.1.2, ⟨hk.1.1.1.1.1.1.1.2, ⟨hk.1.1.1.1.1.1.2, ⟨hk.1.1.1.1.1.2, ⟨hk.1.1.1.1.2, ⟨hk.1.1.1.2, ⟨hk.1.1.2, ⟨hk.1.2, hk.2⟩⟩⟩⟩⟩⟩⟩⟩⟩)), (bZ HB.out)⟩)
        ·skip
         refine Kd.R_lit_step k24 _ 24 ?hg (N := 49) ?hd (xs := ([(⟨1, 2⟩ : S24), (⟨6, 9⟩ : S24)] : List (S24))) (inner := [.int .i64 1, .int .i64 2, .int .i64 6, .int .i64 9]) (ok := fun _ => True) (okp := fun _ => True) ?hr ?hp (fun _ hk => hk) trivial (Below.refl _ _) (Nat.le_refl _) (by simp) ?_; (case hd => rfl); (case hg => rfl); (case hr => first | (go_simp; done) | (go_simp; rfl)); (case hp => exact (Reps.c2 (show Kd.M k24 _ _ _ (⟨1, 2⟩ : S24) [.int .i64 1, .int .i64 2] from (k24_mkM _ _ _ (⟨1, 2⟩ : S24) )) (Reps.c2 (show Kd.M k24 _ _ _ (⟨6, 9⟩ : S24) [.int .i64 6, .int .i64 9] from (k24_mkM _ _ _ (⟨6, 9⟩ : S24) )) (Reps.none _ _))))
         intro v176 w42 ho43 hb hg_ hnew_
         clear hg_ hnew_
         (first | rw [← Ny175.out] at ho43 | (simp only [Int.reduceToNat] at ho43; rw [← Ny175.out] at ho43))
         have n0_ := Aside0.mk (Kd.R_elder' (rZ HO136.out) (Kd.R_base ho43) hb)
         have n1_ := Aside0.mk (Kd.R_elder' (rZ HO139.out) (Kd.R_base ho43) hb)
         have n2_ := Aside0.mk (Kd.R_elder' (rZ HO142.out) (Kd.R_base ho43) hb)
         have n3_ := Aside0.mk (Kd.R_elder' (rZ HO145.out) (Kd.R_base ho43) hb)
         have n4_ := Aside0.mk (Kd.R_elder' (rZ HO148.out) (Kd.R_base ho43) hb)
         have n5_ := Aside0.mk (Kd.R_elder' (rZ HO151.out) (Kd.R_base ho43) hb)
         have n6_ := Aside0.mk (Kd.R_elder' (rZ HO163.out) (Kd.R_base ho43) hb)
         have n7_ := Aside0.mk (Kd.R_elder' (rZ HO167.out) (Kd.R_base ho43) hb)
         have n8_ := Aside0.mk (Kd.R_elder' (rZ HO170.out) (Kd.R_base ho43) hb)
         have n9_ := Aside0.mk (Kd.R_lower (Kd.R_new' (Kd.R_new' (Kd.R_new' (Kd.R_new' (Kd.R_new' (Kd.R_new' (Kd.R_new' (Kd.R_new' (Kd.R_new' ho43 (Kd.R_lt (rZ HO136.out))) (Kd.R_lt (rZ HO139.out))) (Kd.R_lt (rZ HO142.out))) (Kd.R_lt (rZ HO145.out))) (Kd.R_lt (rZ HO148.out))) (Kd.R_lt (rZ HO151.out))) (Kd.R_lt (rZ HO163.out))) (Kd.R_lt (rZ HO167.out))) (Kd.R_lt (rZ HO170.out))) (below_size (bZ HB.out)))
         have n10_ := Aside0.mk (Kd.C_below (by repeat (first | (with_reducible exact HR156.out) | (with_reducible refine Kd.C_alloc ?_ _) | (with_reducible refine Kd.C_drewN ?_ _) | (with_reducible refine Kd.C_drew ?_) | exact HR156.out)) hb)
         have n11_ := Aside0.mk (Kd.C_below (by repeat (first | (with_reducible exact HR160.out) | (with_reducible refine Kd.C_alloc ?_ _) | (with_reducible refine Kd.C_drewN ?_ _) | (with_reducible refine Kd.C_drew ?_) | exact HR160.out)) hb)
         have n12_ := Aside0.mk (below_step (bZ HB.out) hb)
         clear HO136
         clear HO139
         clear HO142
         clear HO145
         clear HO148
         clear HO151
         clear HO163
         clear HO167
         clear HO170
         clear HR156
         clear HR160
         clear HB
         have HO136 := n0_
         have HO139 := n1_
         have HO142 := n2_
         have HO145 := n3_
         have HO148 := n4_
         have HO151 := n5_
         have HO163 := n6_
         have HO167 := n7_
         have HO170 := n8_
         have HO177 := n9_
         have HR156 := n10_
         have HR160 := n11_
         have HB := n12_
         clear n0_ n1_ n2_ n3_ n4_ n5_ n6_ n7_ n8_ n9_ n10_ n11_ n12_
         clear hb ho43
         refine hK.out _ _ trivial (fun hHeld => ?_)
         clear hK K
         refine norm_ (a' := ?_) ?_ ?_
         rotate_left
         ·show Act.put _ (some 49) _ = _
          simp only [Act.put, List.setIfInBounds_toArray, List.set_cons_zero, List.set_cons_succ, i64_w, i32_w]
          rfl
         refine one_ (i := 25) (N := some 46) #[true, true, true, true, true, true, true, true, true, true, true, true, true, true, true, true, true, true, true, true, true, true, true, true, true, true, true, true, true, false, false, false] rfl rfl (one_of HT_.out (by kernel_rfl)) (by decide) (fun K hK => ?_)
         refine goes_ Try.func21 (by kernel_rfl) rfl #[.slice Ao29 y143.length co29, .slice Ao28 y140.length co28] (by rfl) rfl rfl (by (try simp only [List.map_toArray, List.map_cons, List.map_nil]); first | done | rfl | (simp only [List.length_drop, List.length_take]; rfl)) ?_
         with_reducible refine (span_Minus.calls _ _ y143 _ _ y140 t172 _ ?side1 ?side2 ?side3 ?side4 A23.out).mono ?_
         (case side1 => repeat (first | exact (Kd.R_reads' HO145.out).2.2 | (with_reducible refine Kd.C_alloc ?_ _) | (with_reducible refine Kd.C_drewN ?_ _) | (with_reducible refine Kd.C_drew ?_)))
         (case side2 => exact (Kd.R_reads' HO145.out).2.1)
         (case side3 => repeat (first | exact (Kd.R_reads' HO142.out).2.2 | (with_reducible refine Kd.C_alloc ?_ _) | (with_reducible refine Kd.C_drewN ?_ _) | (with_reducible refine Kd.C_drew ?_)))
         (case side4 => exact (Kd.R_reads' HO142.out).2.1)
         rintro e w44 ⟨v173, rfl, ho0, hb⟩
         refine ⟨_, rfl, ?_⟩
         have n0_ := Aside0.mk (Kd.R_elder' (rZ HO136.out) (Kd.R_base ho0) hb)
         have n1_ := Aside0.mk (Kd.R_elder' (rZ HO139.out) (Kd.R_base ho0) hb)
         have n2_ := Aside0.mk (Kd.R_elder' (rZ HO142.out) (Kd.R_base ho0) hb)
         have n3_ := Aside0.mk (Kd.R_elder' (rZ HO145.out) (Kd.R_base ho0) hb)
         have n4_ := Aside0.mk (Kd.R_elder' (rZ HO148.out) (Kd.R_base ho0) hb)
         have n5_ := Aside0.mk (Kd.R_elder' (rZ HO151.out) (Kd.R_base ho0) hb)
         have n6_ := Aside0.mk (Kd.R_elder' (rZ HO163.out) (Kd.R_base ho0) hb)
         have n7_ := Aside0.mk (Kd.R_elder' (rZ HO167.out) (Kd.R_base ho0) hb)
         have n8_ := Aside0.mk (Kd.R_elder' (rZ HO170.out) (Kd.R_base ho0) hb)
         have n9_ := Aside0.mk (Kd.R_elder' (rZ HO177.out) (Kd.R_base ho0) hb)
         have n10_ := Aside0.mk (Kd.R_lower (Kd.R_new' (Kd.R_new' (Kd.R_new' (Kd.R_new' (Kd.R_new' (Kd.R_new' (Kd.R_new' (Kd.R_new' (Kd.R_new' (Kd.R_new' ho0 (Kd.R_lt (rZ HO136.out))) (Kd.R_lt (rZ HO139.out))) (Kd.R_lt (rZ HO142.out))) (Kd.R_lt (rZ HO145.out))) (Kd.R_lt (rZ HO148.out))) (Kd.R_lt (rZ HO151.out))) (Kd.R_lt (rZ HO163.out))) (Kd.R_lt (rZ HO167.out))) (Kd.R_lt (rZ HO170.out))) (Kd.R_lt (rZ HO177.out))) (below_size (bZ HB.out)))
         have n11_ := Aside0.mk (Kd.C_below (by repeat (first | (with_reducible exact HR156.out) | (with_reducible refine Kd.C_alloc ?_ _) | (with_reducible refine Kd.C_drewN ?_ _) | (with_reducible refine Kd.C_drew ?_) | exact HR156.out)) hb)
         have n12_ := Aside0.mk (Kd.C_below (by repeat (first | (with_reducible exact HR160.out) | (with_reducible refine Kd.C_alloc ?_ _) | (with_reducible refine Kd.C_drewN ?_ _) | (with_reducible refine Kd.C_drew ?_) | exact HR160.out)) hb)
         have n13_ := Aside0.mk (below_step (bZ HB.out) hb)
         clear HO136
         clear HO139
         clear HO142
         clear HO145
         clear HO148
         clear HO151
         clear HO163
         clear HO167
         clear HO170
         clear HO177
         clear HR156
         clear HR160
         clear HB
         have HO136 := n0_
         have HO139 := n1_
         have HO142 := n2_
         have HO145 := n3_
         have HO148 := n4_
         have HO151 := n5_
         have HO163 := n6_
         have HO167 := n7_
         have HO170 := n8_
         have HO177 := n9_
         have HO174 := n10_
         have HR156 := n11_
         have HR160 := n12_
         have HB := n13_
         clear n0_ n1_ n2_ n3_ n4_ n5_ n6_ n7_ n8_ n9_ n10_ n11_ n12_ n13_
         (try clear hb)
         (try clear hb2)
         (try clear hk)
         (try clear hi)
         (try clear ho0)
         refine hK.out _ _ trivial (fun hHeld => ?_)
         clear hK K
         refine norm_ (a' := ?_) ?_ ?_
         rotate_left
         ·show Act.put _ (some 46) _ = _
          simp only [Act.put, List.setIfInBounds_toArray, List.set_cons_zero, List.set_cons_succ, i64_w, i32_w]
          rfl
         exact norm_ (by simp only [putAll, Act.put, List.setIfInBounds_toArray, List.set_cons_zero, List.set_cons_succ]) (hCont (.slice Ao40 t165.length co40, .slice Ao41 y168.length co41, v173, v176) _ ⟨(by (with_reducible repeat (first | apply Kd.R_alloc | apply Kd.R_drewN | apply Kd.R_drew)); exact Kd.R_mono HO136.out (fun _ hk => ⟨hk.1.1.1.1.1.1.1.1.1.2, ⟨hk.1.1.1.1.1.1.1.1.2, ⟨hk.1.1.1.1.1.1.1.2, ⟨hk.1.1.1.1.1.1.2, ⟨hk.1.1.1.1.1.2, ⟨hk.1.1.1.1.2, ⟨hk.1.1.1.2, ⟨hk.1.1.2, ⟨hk.2, hk.1.2⟩⟩⟩⟩⟩⟩⟩⟩⟩)), (by (with_reducible repeat (first | apply Kd.R_alloc | apply Kd.R_drewN | apply Kd.R_drew)); exact Kd.R_mono HO139.out (fun _ hk => ⟨hk.1.1.1.1.1.1.1.1.1.2, ⟨hk.1.1.1.1.1.1.1.1.2, ⟨hk.1.1.1.1.1.1.1.2, ⟨hk.1.1.1.1.1.1.2, ⟨hk.1.1.1.1.1.2, ⟨hk.1.1.1.1.2, ⟨hk.1.1.1.2, ⟨hk.1.1.2, ⟨hk.2, hk.1.2⟩⟩⟩⟩⟩⟩⟩⟩⟩)), (by (with_reducible repeat (first | apply Kd.R_alloc | apply Kd.R_drewN | apply Kd.R_drew)); exact Kd.R_mono HO142.out (fun _ hk => ⟨hk.1.1.1.1.1.1.1.1.1.2, ⟨hk.1.1.1.1.1.1.1.1.2, ⟨hk.1.1.1.1.1.1.1.2, ⟨hk.1.1.1.1.1.1.2, ⟨hk.1.1.1.1.1.2, ⟨hk.1.1.1.1.2, ⟨hk.1.1.1.2, ⟨hk.1.1.2, ⟨hk.2, hk.1.2⟩⟩⟩⟩⟩⟩⟩⟩⟩)), (by (with_reducible repeat (first | apply Kd.R_alloc | apply Kd.R_drewN | apply Kd.R_drew)); exact Kd.R_mono HO145.out (fun _ hk => ⟨hk.1.1.1.1.1.1.1.1.1.2, ⟨hk.1.1.1.1.1.1.1.1.2, ⟨hk.1.1.1.1.1.1.1.2, ⟨hk.1.1.1.1.1.1.2, ⟨hk.1.1.1.1.1.2, ⟨hk.1.1.1.1.2, ⟨hk.1.1.1.2, ⟨hk.1.1.2, ⟨hk.2, hk.1.2⟩⟩⟩⟩⟩⟩⟩⟩⟩)), (by (with_reducible repeat (first | apply Kd.R_alloc | apply Kd.R_drewN | apply Kd.R_drew)); exact Kd.R_mono HO148.out (fun _ hk => ⟨hk.1.1.1.1.1.1.1.1.1.2, ⟨hk.1.1.1.1.1.1.1.1.2, ⟨hk.1.1.1.1.1.1.1.2, ⟨hk.1.1.1.1.1.1.2, ⟨hk.1.1.1.1.1.2, ⟨hk.1.1.1.1.2, ⟨hk.1.1.1.2, ⟨hk.1.1.2, ⟨hk.2, hk.1.2⟩⟩⟩⟩⟩⟩⟩⟩⟩)), (by (with_reducible repeat (first | apply Kd.R_alloc | apply Kd.R_drewN | apply Kd.R_drew)); exact Kd.R_mono HO151.out (fun _ hk => ⟨hk.1.1.1.1.1.1.1.1.1.2, ⟨hk.1.1.1.1.1.1.1.1.2, ⟨hk.1.1.1.1.1.1.1.2, ⟨hk.1.1.1.1.1.1.2, ⟨hk.1.1.1.1.1.2, ⟨hk.1.1.1.1.2, ⟨hk.1.1.1.2, ⟨hk.1.1.2, ⟨hk.2, hk.1.2⟩⟩⟩⟩⟩⟩⟩⟩⟩)), (by (with_reducible repeat (first | apply Kd.R_alloc | apply Kd.R_drewN | apply Kd.R_drew)); exact Kd.R_mono HO163.out (fun _ hk => ⟨hk.1.1.1.1.1.1.1.1.1.2, ⟨hk.1.1.1.1.1.1.1.1.2, ⟨hk.1.1.1.1.1.1.1.2, ⟨hk.1.1.1.1.1.1.2, ⟨hk.1.1.1.1.1.2, ⟨hk.1.1.1.1.2, ⟨hk.1.1.1.2, ⟨hk.1.1.2, ⟨hk.2, hk.1.2⟩⟩⟩⟩⟩⟩⟩⟩⟩)), (by (with_reducible repeat (first | apply Kd.R_alloc | apply Kd.R_drewN | apply Kd.R_drew)); exact Kd.R_mono HO167.out (fun _ hk => ⟨hk.1.1.1.1.1.1.1.1.1.2, ⟨hk.1.1.1.1.1.1.1.1.2, ⟨hk.1.1.1.1.1.1.1.2, ⟨hk.1.1.1.1.1.1.2, ⟨hk.1.1.1.1.1.2, ⟨hk.1.1.1.1.2, ⟨hk.1.1.1.2, ⟨hk.1.1.2, ⟨hk.2, hk.1.2⟩⟩⟩⟩⟩⟩⟩⟩⟩)), (by (with_reducible repeat (first | apply Kd.R_alloc | apply Kd.R_drewN | apply Kd.R_drew)); exact Kd.R_mono HO170.out (fun _ hk => ⟨hk.1.1.1.1.1.1.1.1.1.2, ⟨hk.1.1.1.1.1.1.1.1.2, ⟨hk.1.1.1.1.1.1.1.2, ⟨hk.1.1.1.1.1.1.2, ⟨hk.1.1.1.1.1.2, ⟨hk.1.1.1.1.2, ⟨hk.1.1.1.2, ⟨hk.1.1.2, ⟨hk.2, hk.1.2⟩⟩⟩⟩⟩⟩⟩⟩⟩)), (by (with_reducible repeat (first | apply Kd.R_alloc | apply Kd.R_drewN | apply Kd.R_drew)); exact Kd.R_mono HO174.out (fun _ hk => ⟨hk.1.1.1.1.1.1.1.1.1.2, ⟨hk.1.1.1.1.1.1.1.1.2, ⟨hk.1.1.1.1.1.1.1.2, ⟨hk.1.1.1.1.1.1.2, ⟨hk.1.1.1.1.1.2, ⟨hk.1.1.1.1.2, ⟨hk.1.1.1.2, ⟨hk.1.1.2, ⟨hk.1.2, hk.2⟩⟩⟩⟩⟩⟩⟩⟩⟩)), (by (with_reducible repeat (first | apply Kd.R_alloc | apply Kd.R_drewN | apply Kd.R_drew)); exact Kd.R_mono HO177.out (fun _ hk => ⟨hk.1.1.1.1.1.1.1.1.1.2, ⟨hk.1.1.1.1.1.1.1.1.2, ⟨hk.1.1.1.1.1.1.1.2, ⟨hk.1.1.1.1.1.1.2, ⟨hk.1.1.1.1.1.2, ⟨hk.1.1.1.1.2, ⟨hk.1.1.1.2, ⟨hk.1.1.2, ⟨hk.1.2, hk.2⟩⟩⟩⟩⟩⟩⟩⟩⟩)), (bZ HB.out)⟩)
       ·skip
        refine Kd.R_lit_step k24 _ 24 ?hg (N := 40) ?hd (xs := ([(⟨2, 3⟩ : S24), (⟨5, 6⟩ : S24)] : List (S24))) (inner := [.int .i64 2, .int .i64 3, .int .i64 5, .int .i64 6]) (ok := fun _ => True) (okp := fun _ => True) ?hr ?hp (fun _ hk => hk) trivial (Below.refl _ _) (Nat.le_refl _) (by simp) ?_; (case hd => rfl); (case hg => rfl); (case hr => first | (go_simp; done) | (go_simp; rfl)); (case hp => exact (Reps.c2 (show Kd.M k24 _ _ _ (⟨2, 3⟩ : S24) [.int .i64 2, .int .i64 3] from (k24_mkM _ _ _ (⟨2, 3⟩ : S24) )) (Reps.c2 (show Kd.M k24 _ _ _ (⟨5, 6⟩ : S24) [.int .i64 5, .int .i64 6] from (k24_mkM _ _ _ (⟨5, 6⟩ : S24) )) (Reps.none _ _))))
        intro v169 w37 ho38 hb hg_ hnew_
        clear hg_ hnew_
        (first | rw [← Ny168.out] at ho38 | (simp only [Int.reduceToNat] at ho38; rw [← Ny168.out] at ho38))
        have n0_ := Aside0.mk (Kd.R_elder' (rZ HO136.out) (Kd.R_base ho38) hb)
        have n1_ := Aside0.mk (Kd.R_elder' (rZ HO139.out) (Kd.R_base ho38) hb)
        have n2_ := Aside0.mk (Kd.R_elder' (rZ HO142.out) (Kd.R_base ho38) hb)
        have n3_ := Aside0.mk (Kd.R_elder' (rZ HO145.out) (Kd.R_base ho38) hb)
        have n4_ := Aside0.mk (Kd.R_elder' (rZ HO148.out) (Kd.R_base ho38) hb)
        have n5_ := Aside0.mk (Kd.R_elder' (rZ HO151.out) (Kd.R_base ho38) hb)
        have n6_ := Aside0.mk (Kd.R_elder' (rZ HO163.out) (Kd.R_base ho38) hb)
        have n7_ := Aside0.mk (Kd.R_lower (Kd.R_new' (Kd.R_new' (Kd.R_new' (Kd.R_new' (Kd.R_new' (Kd.R_new' (Kd.R_new' ho38 (Kd.R_lt (rZ HO136.out))) (Kd.R_lt (rZ HO139.out))) (Kd.R_lt (rZ HO142.out))) (Kd.R_lt (rZ HO145.out))) (Kd.R_lt (rZ HO148.out))) (Kd.R_lt (rZ HO151.out))) (Kd.R_lt (rZ HO163.out))) (below_size (bZ HB.out)))
        have n8_ := Aside0.mk (Kd.C_below (by repeat (first | (with_reducible exact HR156.out) | (with_reducible refine Kd.C_alloc ?_ _) | (with_reducible refine Kd.C_drewN ?_ _) | (with_reducible refine Kd.C_drew ?_) | exact HR156.out)) hb)
        have n9_ := Aside0.mk (Kd.C_below (by repeat (first | (with_reducible exact HR160.out) | (with_reducible refine Kd.C_alloc ?_ _) | (with_reducible refine Kd.C_drewN ?_ _) | (with_reducible refine Kd.C_drew ?_) | exact HR160.out)) hb)
        have n10_ := Aside0.mk (below_step (bZ HB.out) hb)
        clear HO136
        clear HO139
        clear HO142
        clear HO145
        clear HO148
        clear HO151
        clear HO163
        clear HR156
        clear HR160
        clear HB
        have HO136 := n0_
        have HO139 := n1_
        have HO142 := n2_
        have HO145 := n3_
        have HO148 := n4_
        have HO151 := n5_
        have HO163 := n6_
        have HO170 := n7_
        have HR156 := n8_
        have HR160 := n9_
        have HB := n10_
        clear n0_ n1_ n2_ n3_ n4_ n5_ n6_ n7_ n8_ n9_ n10_
        clear hb ho38
        refine hK.out _ _ trivial (fun hHeld => ?_)
        clear hK K
        refine norm_ (a' := ?_) ?_ ?_
        rotate_left
        ·show Act.put _ (some 40) _ = _
         simp only [Act.put, List.setIfInBounds_toArray, List.set_cons_zero, List.set_cons_succ, i64_w, i32_w]
         rfl
        refine one_ (i := 16) (N := some 37) #[true, true, true, true, true, true, true, true, true, true, true, true, true, true, true, true, true, true, true, true, false, false, false, false, false, false, false, false, false, false, false, false] rfl rfl (one_of HT_.out (by kernel_rfl)) (by decide) (fun K hK => ?_)
        refine goes_ Try.func19 (by kernel_rfl) rfl #[.slice Ao27 y137.length co27, .slice Ao28 y140.length co28] (by rfl) rfl rfl (by (try simp only [List.map_toArray, List.map_cons, List.map_nil]); first | done | rfl | (simp only [List.length_drop, List.length_take]; rfl)) ?_
        with_reducible refine (span_Meet.calls _ _ y137 _ _ y140 t165 _ ?side1 ?side2 ?side3 ?side4 A20.out).mono ?_
        (case side1 => repeat (first | exact (Kd.R_reads' HO139.out).2.2 | (with_reducible refine Kd.C_alloc ?_ _) | (with_reducible refine Kd.C_drewN ?_ _) | (with_reducible refine Kd.C_drew ?_)))
        (case side2 => exact (Kd.R_reads' HO139.out).2.1)
        (case side3 => repeat (first | exact (Kd.R_reads' HO142.out).2.2 | (with_reducible refine Kd.C_alloc ?_ _) | (with_reducible refine Kd.C_drewN ?_ _) | (with_reducible refine Kd.C_drew ?_)))
        (case side4 => exact (Kd.R_reads' HO142.out).2.1)
        rintro e w39 ⟨v166, rfl, ho0, hb⟩
        refine ⟨_, rfl, ?_⟩
        have n0_ := Aside0.mk (Kd.R_elder' (rZ HO136.out) (Kd.R_base ho0) hb)
        have n1_ := Aside0.mk (Kd.R_elder' (rZ HO139.out) (Kd.R_base ho0) hb)
        have n2_ := Aside0.mk (Kd.R_elder' (rZ HO142.out) (Kd.R_base ho0) hb)
        have n3_ := Aside0.mk (Kd.R_elder' (rZ HO145.out) (Kd.R_base ho0) hb)
        have n4_ := Aside0.mk (Kd.R_elder' (rZ HO148.out) (Kd.R_base ho0) hb)
        have n5_ := Aside0.mk (Kd.R_elder' (rZ HO151.out) (Kd.R_base ho0) hb)
        have n6_ := Aside0.mk (Kd.R_elder' (rZ HO163.out) (Kd.R_base ho0) hb)
        have n7_ := Aside0.mk (Kd.R_elder' (rZ HO170.out) (Kd.R_base ho0) hb)
        have n8_ := Aside0.mk (Kd.R_lower (Kd.R_new' (Kd.R_new' (Kd.R_new' (Kd.R_new' (Kd.R_new' (Kd.R_new' (Kd.R_new' (Kd.R_new' ho0 (Kd.R_lt (rZ HO136.out))) (Kd.R_lt (rZ HO139.out))) (Kd.R_lt (rZ HO142.out))) (Kd.R_lt (rZ HO145.out))) (Kd.R_lt (rZ HO148.out))) (Kd.R_lt (rZ HO151.out))) (Kd.R_lt (rZ HO163.out))) (Kd.R_lt (rZ HO170.out))) (below_size (bZ HB.out)))
        have n9_ := Aside0.mk (Kd.C_below (by repeat (first | (with_reducible exact HR156.out) | (with_reducible refine Kd.C_alloc ?_ _) | (with_reducible refine Kd.C_drewN ?_ _) | (with_reducible refine Kd.C_drew ?_) | exact HR156.out)) hb)
        have n10_ := Aside0.mk (Kd.C_below (by repeat (first | (with_reducible exact HR160.out) | (with_reducible refine Kd.C_alloc ?_ _) | (with_reducible refine Kd.C_drewN ?_ _) | (with_reducible refine Kd.C_drew ?_) | exact HR160.out)) hb)
        have n11_ := Aside0.mk (below_step (bZ HB.out) hb)
        clear HO136
        clear HO139
        clear HO142
        clear HO145
        clear HO148
        clear HO151
        clear HO163
        clear HO170
        clear HR156
        clear HR160
        clear HB
        have HO136 := n0_
        have HO139 := n1_
        have HO142 := n2_
        have HO145 := n3_
        have HO148 := n4_
        have HO151 := n5_
        have HO163 := n6_
        have HO170 := n7_
        have HO167 := n8_
        have HR156 := n9_
        have HR160 := n10_
        have HB := n11_
        clear n0_ n1_ n2_ n3_ n4_ n5_ n6_ n7_ n8_ n9_ n10_ n11_
        (try clear hb)
        (try clear hb2)
        (try clear hk)
        (try clear hi)
        (try clear ho0)
        obtain ⟨Ao40, co40, eo40⟩ := Kd.R_slice HO167.out
        (first | subst eo40 | (injection eo40 with f1_ f2_ f3_; have f4_ := f1_.symm; have f5_ := f3_.symm; clear f1_ f2_ f3_; subst f4_; subst f5_))
        obtain ⟨Ao41, co41, eo41⟩ := Kd.R_slice HO170.out
        (first | subst eo41 | (injection eo41 with f1_ f2_ f3_; have f4_ := f1_.symm; have f5_ := f3_.symm; clear f1_ f2_ f3_; subst f4_; subst f5_))
        refine hK.out _ _ trivial (fun hHeld => ?_)
        clear hK K
        refine norm_ (a' := ?_) ?_ ?_
        rotate_left
        ·show Act.put _ (some 37) _ = _
         simp only [Act.put, List.setIfInBounds_toArray, List.set_cons_zero, List.set_cons_succ, i64_w, i32_w]
         rfl
        refine one_ (i := 20) (N := some 41) #[true, true, true, true, true, true, true, true, true, true, true, true, true, true, true, true, true, true, true, true, true, false, false, false, false, false, false, false, false, false, false, false] rfl rfl (one_of HT_.out (by kernel_rfl)) (by decide) (fun K hK => ?_)
        refine goes_ Try.func14 (by kernel_rfl) rfl #[.slice Ao40 t165.length co40, .slice Ao41 y168.length co41] (by rfl) rfl rfl (by (try simp only [List.map_toArray, List.map_cons, List.map_nil]); first | done | rfl | (simp only [List.length_drop, List.length_take]; rfl)) ?_
        with_reducible refine (r11_Same.calls k _ _ t165 _ _ y168 true _ ?side1 ?side2 ?side3 ?side4 A21.out).mono ?_
        (case side1 => repeat (first | exact (Kd.R_reads' HO167.out).2.2 | (with_reducible refine Kd.C_alloc ?_ _) | (with_reducible refine Kd.C_drewN ?_ _) | (with_reducible refine Kd.C_drew ?_)))
        (case side2 => exact (Kd.R_reads' HO167.out).2.1)
        (case side3 => repeat (first | exact (Kd.R_reads' HO170.out).2.2 | (with_reducible refine Kd.C_alloc ?_ _) | (with_reducible refine Kd.C_drewN ?_ _) | (with_reducible refine Kd.C_drew ?_)))
        (case side4 => exact (Kd.R_reads' HO170.out).2.1)
        rintro e w' ⟨rfl, ⟨nd, rfl⟩⟩
        refine ⟨_, rfl, ?_⟩
        refine hK.out _ _ trivial (fun hHeld => ?_)
        clear hK K
        refine norm_ (a' := ?_) ?_ ?_
        rotate_left
        ·show Act.put _ (some 41) _ = _
         simp only [Act.put, List.setIfInBounds_toArray, List.set_cons_zero, List.set_cons_succ, i64_w, i32_w]
         rfl
        refine pure_ (i := 21) (N := some 42) (v := ?_) (a' := ?_) #[true, true, true, true, true, true, true, true, true, true, true, true, true, true, true, true, true, true, true, true, true, true, false, false, false, false, false, false, false, false, false, false] rfl rfl (any_of HT_.out (by kernel_rfl)) (fun _ _ _ h => h) (Or.inl ⟨by rfl, ?_⟩) ?_ ?_
        rotate_left
        ·intro w'
         go_simp
         with_reducible rfl
        rotate_left
        ·simp only [Act.put, List.setIfInBounds_toArray, List.set_cons_zero, List.set_cons_succ, i64_w, i32_w]
         rfl
        refine pure_ (i := 22) (N := some 43) (v := ?_) (a' := ?_) #[true, true, true, true, true, true, true, true, true, true, true, true, true, true, true, true, true, true, true, true, true, true, true, false, false, false, false, false, false, false, false, false] rfl rfl (any_of HT_.out (by kernel_rfl)) (fun _ _ _ h => h) (Or.inl ⟨by rfl, ?_⟩) ?_ ?_
        rotate_left
        ·intro w'
         go_simp
         with_reducible rfl
        rotate_left
        ·simp only [Act.put, List.setIfInBounds_toArray, List.set_cons_zero, List.set_cons_succ, i64_w, i32_w]
         rfl
        refine pure_ (i := 23) (N := some 44) (v := ?_) (a' := ?_) #[true, true, true, true, true, true, true, true, true, true, true, true, true, true, true, true, true, true, true, true, true, true, true, true, false, false, false, false, false, false, false, false] rfl rfl (any_of HT_.out (by kernel_rfl)) (fun _ _ _ h => h) (Or.inl ⟨by rfl, ?_⟩) ?_ ?_
        rotate_left
        ·intro w'
         go_simp
         with_reducible rfl
        rotate_left
        ·simp only [Act.put, List.setIfInBounds_toArray, List.set_cons_zero, List.set_cons_succ, i64_w, i32_w]
         rfl
        refine pure_ (i := 24) (N := some 45) (v := ?_) (a' := ?_) #[true, true, true, true, true, true, true, true, true, true, true, true, true, true, true, true, true, true, true, true, true, true, true, true, true, false, false, false, false, false, false, false] rfl rfl (any_of HT_.out (by kernel_rfl)) (fun _ _ _ h => h) (Or.inl ⟨by rfl, ?_⟩) ?_ ?_
        rotate_left
        ·intro w'
         go_simp
         with_reducible rfl
        rotate_left
        ·simp only [Act.put, List.setIfInBounds_toArray, List.set_cons_zero, List.set_cons_succ, i64_w, i32_w]
         rfl
        refine pure_ (i := 26) (N := some 47) (v := ?_) (a' := ?_) #[true, true, true, true, true, true, true, true, true, true, true, true, true, true, true, true, true, true, true, true, true, true, true, true, true, false, true, false, false, false, false, false] rfl rfl (any_of HT_.out (by kernel_rfl)) (fun _ _ _ h => h) (Or.inl ⟨by rfl, ?_⟩) ?_ ?_
        rotate_left
        ·intro w'
         go_simp
         with_reducible rfl
        rotate_left
        ·simp only [Act.put, List.setIfInBounds_toArray, List.set_cons_zero, List.set_cons_succ, i64_w, i32_w]
         rfl
        refine pure_ (i := 27) (N := some 48) (v := ?_) (a' := ?_) #[true, true, true, true, true, true, true, true, true, true, true, true, true, true, true, true, true, true, true, true, true, true, true, true, true, false, true, true, false, false, false, false] rfl rfl (any_of HT_.out (by kernel_rfl)) (fun _ _ _ h => h) (Or.inl ⟨by rfl, ?_⟩) ?_ ?_
        rotate_left
        ·intro w'
         go_simp
         with_reducible rfl
        rotate_left
        ·simp only [Act.put, List.setIfInBounds_toArray, List.set_cons_zero, List.set_cons_succ, i64_w, i32_w]
         rfl
        refine two_ (i := 25) (j := 28) (Ni := some 46) (Nj := some 49) #[true, true, true, true, true, true, true, true, true, true, true, true, true, true, true, true, true, true, true, true, true, true, true, true, true, true, true, true, false, false, false, false] #[true, true, true, true, true, true, true, true, true, true, true, true, true, true, true, true, true, true, true, true, true, true, true, true, true, false, true, true, true, false, false, false] rfl rfl rfl rfl (two_of HT_.out (by kernel_rfl)) (by decide) (by decide) (fun K hK => ?_) (fun K hK => ?_)
        ·skip
         refine goes_ Try.func21 (by kernel_rfl) rfl #[.slice Ao29 y143.length co29, .slice Ao28 y140.length co28] (by rfl) rfl rfl (by (try simp only [List.map_toArray, List.map_cons, List.map_nil]); first | done | rfl | (simp only [List.length_drop, List.length_take]; rfl)) ?_
         with_reducible refine (span_Minus.calls _ _ y143 _ _ y140 t172 _ ?side1 ?side2 ?side3 ?side4 A23.out).mono ?_
         (case side1 => repeat (first | exact (Kd.R_reads' HO145.out).2.2 | (with_reducible refine Kd.C_alloc ?_ _) | (with_reducible refine Kd.C_drewN ?_ _) | (with_reducible refine Kd.C_drew ?_)))
         (case side2 => exact (Kd.R_reads' HO145.out).2.1)
         (case side3 => repeat (first | exact (Kd.R_reads' HO142.out).2.2 | (with_reducible refine Kd.C_alloc ?_ _) | (with_reducible refine Kd.C_drewN ?_ _) | (with_reducible refine Kd.C_drew ?_)))
         (case side4 => exact (Kd.R_reads' HO142.out).2.1)
         rintro e w42 ⟨v173, rfl, ho0, hb⟩
         refine ⟨_, rfl, ?_⟩
         have n0_ := Aside0.mk (Kd.R_elder' (rZ HO136.out) (Kd.R_base ho0) hb)
         have n1_ := Aside0.mk (Kd.R_elder' (rZ HO139.out) (Kd.R_base ho0) hb)
         have n2_ := Aside0.mk (Kd.R_elder' (rZ HO142.out) (Kd.R_base ho0) hb)
         have n3_ := Aside0.mk (Kd.R_elder' (rZ HO145.out) (Kd.R_base ho0) hb)
         have n4_ := Aside0.mk (Kd.R_elder' (rZ HO148.out) (Kd.R_base ho0) hb)
         have n5_ := Aside0.mk (Kd.R_elder' (rZ HO151.out) (Kd.R_base ho0) hb)
         have n6_ := Aside0.mk (Kd.R_elder' (rZ HO163.out) (Kd.R_base ho0) hb)
         have n7_ := Aside0.mk (Kd.R_elder' (rZ HO170.out) (Kd.R_base ho0) hb)
         have n8_ := Aside0.mk (Kd.R_elder' (rZ HO167.out) (Kd.R_base ho0) hb)
         have n9_ := Aside0.mk (Kd.R_lower (Kd.R_new' (Kd.R_new' (Kd.R_new' (Kd.R_new' (Kd.R_new' (Kd.R_new' (Kd.R_new' (Kd.R_new' (Kd.R_new' ho0 (Kd.R_lt (rZ HO136.out))) (Kd.R_lt (rZ HO139.out))) (Kd.R_lt (rZ HO142.out))) (Kd.R_lt (rZ HO145.out))) (Kd.R_lt (rZ HO148.out))) (Kd.R_lt (rZ HO151.out))) (Kd.R_lt (rZ HO163.out))) (Kd.R_lt (rZ HO170.out))) (Kd.R_lt (rZ HO167.out))) (below_size (bZ HB.out)))
         have n10_ := Aside0.mk (Kd.C_below (by repeat (first | (with_reducible exact HR156.out) | (with_reducible refine Kd.C_alloc ?_ _) | (with_reducible refine Kd.C_drewN ?_ _) | (with_reducible refine Kd.C_drew ?_) | exact HR156.out)) hb)
         have n11_ := Aside0.mk (Kd.C_below (by repeat (first | (with_reducible exact HR160.out) | (with_reducible refine Kd.C_alloc ?_ _) | (with_reducible refine Kd.C_drewN ?_ _) | (with_reducible refine Kd.C_drew ?_) | exact HR160.out)) hb)
         have n12_ := Aside0.mk (below_step (bZ HB.out) hb)
         clear HO136
         clear HO139
         clear HO142
         clear HO145
         clear HO148
         clear HO151
         clear HO163
         clear HO170
         clear HO167
         clear HR156
         clear HR160
         clear HB
         have HO136 := n0_
         have HO139 := n1_
         have HO142 := n2_
         have HO145 := n3_
         have HO148 := n4_
         have HO151 := n5_
         have HO163 := n6_
         have HO170 := n7_
         have HO167 := n8_
         have HO174 := n9_
         have HR156 := n10_
         have HR160 := n11_
         have HB := n12_
         clear n0_ n1_ n2_ n3_ n4_ n5_ n6_ n7_ n8_ n9_ n10_ n11_ n12_
         (try clear hb)
         (try clear hb2)
         (try clear hk)
         (try clear hi)
         (try clear ho0)
         refine hK.out _ _ trivial (fun hHeld => ?_)
         clear hK K
         refine norm_ (a' := ?_) ?_ ?_
         rotate_left
         ·show Act.put _ (some 46) _ = _
          simp only [Act.put, List.setIfInBounds_toArray, List.set_cons_zero, List.set_cons_succ, i64_w, i32_w]
          rfl
         refine one_ (i := 28) (N := some 49) #[true, true, true, true, true, true, true, true, true, true, true, true, true, true, true, true, true, true, true, true, true, true, true, true, true, true, true, true, true, false, false, false] rfl rfl (one_of HT_.out (by kernel_rfl)) (by decide) (fun K hK => ?_)
         refine Kd.R_lit_step k24 _ 24 ?hg (N := 49) ?hd (xs := ([(⟨1, 2⟩ : S24), (⟨6, 9⟩ : S24)] : List (S24))) (inner := [.int .i64 1, .int .i64 2, .int .i64 6, .int .i64 9]) (ok := fun _ => True) (okp := fun _ => True) ?hr ?hp (fun _ hk => hk) trivial (Below.refl _ _) (Nat.le_refl _) (by simp) ?_; (case hd => rfl); (case hg => rfl); (case hr => first | (go_simp; done) | (go_simp; rfl)); (case hp => exact (Reps.c2 (show Kd.M k24 _ _ _ (⟨1, 2⟩ : S24) [.int .i64 1, .int .i64 2] from (k24_mkM _ _ _ (⟨1, 2⟩ : S24) )) (Reps.c2 (show Kd.M k24 _ _ _ (⟨6, 9⟩ : S24) [.int .i64 6, .int .i64 9] from (k24_mkM _ _ _ (⟨6, 9⟩ : S24) )) (Reps.none _ _))))
         intro v176 w43 ho44 hb hg_ hnew_
         clear hg_ hnew_
         (first | rw [← Ny175.out] at ho44 | (simp only [Int.reduceToNat] at ho44; rw [← Ny175.out] at ho44))
         have n0_ := Aside0.mk (Kd.R_elder' (rZ HO136.out) (Kd.R_base ho44) hb)
         have n1_ := Aside0.mk (Kd.R_elder' (rZ HO139.out) (Kd.R_base ho44) hb)
         have n2_ := Aside0.mk (Kd.R_elder' (rZ HO142.out) (Kd.R_base ho44) hb)
         have n3_ := Aside0.mk (Kd.R_elder' (rZ HO145.out) (Kd.R_base ho44) hb)
         have n4_ := Aside0.mk (Kd.R_elder' (rZ HO148.out) (Kd.R_base ho44) hb)
         have n5_ := Aside0.mk (Kd.R_elder' (rZ HO151.out) (Kd.R_base ho44) hb)
         have n6_ := Aside0.mk (Kd.R_elder' (rZ HO163.out) (Kd.R_base ho44) hb)
         have n7_ := Aside0.mk (Kd.R_elder' (rZ HO170.out) (Kd.R_base ho44) hb)
         have n8_ := Aside0.mk (Kd.R_elder' (rZ HO167.out) (Kd.R_base ho44) hb)
         have n9_ := Aside0.mk (Kd.R_elder' (rZ HO174.out) (Kd.R_base ho44) hb)
         have n10_ := Aside0.mk (Kd.R_lower (Kd.R_new' (Kd.R_new' (Kd.R_new' (Kd.R_new' (Kd.R_new' (Kd.R_new' (Kd.R_new' (Kd.R_new' (Kd.R_new' (Kd.R_new' ho44 (Kd.R_lt (rZ HO136.out))) (Kd.R_lt (rZ HO139.out))) (Kd.R_lt (rZ HO142.out))) (Kd.R_lt (rZ HO145.out))) (Kd.R_lt (rZ HO148.out))) (Kd.R_lt (rZ HO151.out))) (Kd.R_lt (rZ HO163.out))) (Kd.R_lt (rZ HO170.out))) (Kd.R_lt (rZ HO167.out))) (Kd.R_lt (rZ HO174.out))) (below_size (bZ HB.out)))
         have n11_ := Aside0.mk (Kd.C_below (by repeat (first | (with_reducible exact HR156.out) | (with_reducible refine Kd.C_alloc ?_ _) | (with_reducible refine Kd.C_drewN ?_ _) | (with_reducible refine Kd.C_drew ?_) | exact HR156.out)) hb)
         have n12_ := Aside0.mk (Kd.C_below (by repeat (first | (with_reducible exact HR160.out) | (with_reducible refine Kd.C_alloc ?_ _) | (with_reducible refine Kd.C_drewN ?_ _) | (with_reducible refine Kd.C_drew ?_) | exact HR160.out)) hb)
         have n13_ := Aside0.mk (below_step (bZ HB.out) hb)
         clear HO136
         clear HO139
         clear HO142
         clear HO145
         clear HO148
         clear HO151
         clear HO163
         clear HO170
         clear HO167
         clear HO174
         clear HR156
         clear HR160
         clear HB
         have HO136 := n0_
         have HO139 := n1_
         have HO142 := n2_
         have HO145 := n3_
         have HO148 := n4_
         have HO151 := n5_
         have HO163 := n6_
         have HO170 := n7_
         have HO167 := n8_
         have HO174 := n9_
         have HO177 := n10_
         have HR156 := n11_
         have HR160 := n12_
         have HB := n13_
         clear n0_ n1_ n2_ n3_ n4_ n5_ n6_ n7_ n8_ n9_ n10_ n11_ n12_ n13_
         clear hb ho44
         refine hK.out _ _ trivial (fun hHeld => ?_)
         clear hK K
         refine norm_ (a' := ?_) ?_ ?_
         rotate_left
         ·show Act.put _ (some 49) _ = _
          simp only [Act.put, List.setIfInBounds_toArray, List.set_cons_zero, List.set_cons_succ, i64_w, i32_w]
          rfl
         exact norm_ (by simp only [putAll, Act.put, List.setIfInBounds_toArray, List.set_cons_zero, List.set_cons_succ]) (hCont (.slice Ao40 t165.length co40, .slice Ao41 y168.length co41, v173, v176) _ ⟨(by (with_reducible repeat (first | apply Kd.R_alloc | apply Kd.R_drewN | apply Kd.R_drew)); exact Kd.R_mono HO136.out (fun _ hk => ⟨hk.1.1.1.1.1.1.1.1.1.2, ⟨hk.1.1.1.1.1.1.1.1.2, ⟨hk.1.1.1.1.1.1.1.2, ⟨hk.1.1.1.1.1.1.2, ⟨hk.1.1.1.1.1.2, ⟨hk.1.1.1.1.2, ⟨hk.1.1.2, ⟨hk.1.1.1.2, ⟨hk.1.2, hk.2⟩⟩⟩⟩⟩⟩⟩⟩⟩)), (by (with_reducible repeat (first | apply Kd.R_alloc | apply Kd.R_drewN | apply Kd.R_drew)); exact Kd.R_mono HO139.out (fun _ hk => ⟨hk.1.1.1.1.1.1.1.1.1.2, ⟨hk.1.1.1.1.1.1.1.1.2, ⟨hk.1.1.1.1.1.1.1.2, ⟨hk.1.1.1.1.1.1.2, ⟨hk.1.1.1.1.1.2, ⟨hk.1.1.1.1.2, ⟨hk.1.1.2, ⟨hk.1.1.1.2, ⟨hk.1.2, hk.2⟩⟩⟩⟩⟩⟩⟩⟩⟩)), (by (with_reducible repeat (first | apply Kd.R_alloc | apply Kd.R_drewN | apply Kd.R_drew)); exact Kd.R_mono HO142.out (fun _ hk => ⟨hk.1.1.1.1.1.1.1.1.1.2, ⟨hk.1.1.1.1.1.1.1.1.2, ⟨hk.1.1.1.1.1.1.1.2, ⟨hk.1.1.1.1.1.1.2, ⟨hk.1.1.1.1.1.2, ⟨hk.1.1.1.1.2, ⟨hk.1.1.2, ⟨hk.1.1.1.2, ⟨hk.1.2, hk.2⟩⟩⟩⟩⟩⟩⟩⟩⟩)), (by (with_reducible repeat (first | apply Kd.R_alloc | apply Kd.R_drewN | apply Kd.R_drew)); exact Kd.R_mono HO145.out (fun _ hk => ⟨hk.1.1.1.1.1.1.1.1.1.2, ⟨hk.1.1.1.1.1.1.1.1.2, ⟨hk.1.1.1.1.1.1.1.2, ⟨hk.1.1.1.1.1.1.2, ⟨hk.1.1.1.1.1.2, ⟨hk.1.1.1.1.2, ⟨hk.1.1.2, ⟨hk.1.1.1.2, ⟨hk.1.2, hk.2⟩⟩⟩⟩⟩⟩⟩⟩⟩)), (by (with_reducible repeat (first | apply Kd.R_alloc | apply Kd.R_drewN | apply Kd.R_drew)); exact Kd.R_mono HO148.out (fun _ hk => ⟨hk.1.1.1.1.1.1.1.1.1.2, ⟨hk.1.1.1.1.1.1.1.1.2, ⟨hk.1.1.1.1.1.1.1.2, ⟨hk.1.1.1.1.1.1.2, ⟨hk.1.1.1.1.1.2, ⟨hk.1.1.1.1.2, ⟨hk.1.1.2, ⟨hk.1.1.1.2, ⟨hk.1.2, hk.2⟩⟩⟩⟩⟩⟩⟩⟩⟩)), (by (with_reducible repeat (first | apply Kd.R_alloc | apply Kd.R_drewN | apply Kd.R_drew)); exact Kd.R_mono HO151.out (fun _ hk => ⟨hk.1.1.1.1.1.1.1.1.1.2, ⟨hk.1.1.1.1.1.1.1.1.2, ⟨hk.1.1.1.1.1.1.1.2, ⟨hk.1.1.1.1.1.1.2, ⟨hk.1.1.1.1.1.2, ⟨hk.1.1.1.1.2, ⟨hk.1.1.2, ⟨hk.1.1.1.2, ⟨hk.1.2, hk.2⟩⟩⟩⟩⟩⟩⟩⟩⟩)), (by (with_reducible repeat (first | apply Kd.R_alloc | apply Kd.R_drewN | apply Kd.R_drew)); exact Kd.R_mono HO163.out (fun _ hk => ⟨hk.1.1.1.1.1.1.1.1.1.2, ⟨hk.1.1.1.1.1.1.1.1.2, ⟨hk.1.1.1.1.1.1.1.2, ⟨hk.1.1.1.1.1.1.2, ⟨hk.1.1.1.1.1.2, ⟨hk.1.1.1.1.2, ⟨hk.1.1.2, ⟨hk.1.1.1.2, ⟨hk.1.2, hk.2⟩⟩⟩⟩⟩⟩⟩⟩⟩)), (by (with_reducible repeat (first | apply Kd.R_alloc | apply Kd.R_drewN | apply Kd.R_drew)); exact Kd.R_mono HO167.out (fun _ hk => ⟨hk.1.1.1.1.1.1.1.1.1.2, ⟨hk.1.1.1.1.1.1.1.1.2, ⟨hk.1.1.1.1.1.1.1.2, ⟨hk.1.1.1.1.1.1.2, ⟨hk.1.1.1.1.1.2, ⟨hk.1.1.1.1.2, ⟨hk.1.1.1.2, ⟨hk.1.1.2, ⟨hk.1.2, hk.2⟩⟩⟩⟩⟩⟩⟩⟩⟩)), (by (with_reducible repeat (first | apply Kd.R_alloc | apply Kd.R_drewN | apply Kd.R_drew)); exact Kd.R_mono HO170.out (fun _ hk => ⟨hk.1.1.1.1.1.1.1.1.1.2, ⟨hk.1.1.1.1.1.1.1.1.2, ⟨hk.1.1.1.1.1.1.1.2, ⟨hk.1.1.1.1.1.1.2, ⟨hk.1.1.1.1.1.2, ⟨hk.1.1.1.1.2, ⟨hk.1.1.1.2, ⟨hk.1.1.2, ⟨hk.1.2, hk.2⟩⟩⟩⟩⟩⟩⟩⟩⟩)), (by (with_reducible repeat (first | apply Kd.R_alloc | apply Kd.R_drewN | apply Kd.R_drew)); exact Kd.R_mono HO174.out (fun _ hk => ⟨hk.1.1.1.1.1.1.1.1.1.2, ⟨hk.1.1.1.1.1.1.1.1.2, ⟨hk.1.1.1.1.1.1.1.2, ⟨hk.1.1.1.1.1.1.2, ⟨hk.1.1.1.1.1.2, ⟨hk.1.1.1.1.2, ⟨hk.1.1.1.2, ⟨hk.1.2, ⟨hk.1.1.2, hk.2⟩⟩⟩⟩⟩⟩⟩⟩⟩)), (by (with_reducible repeat (first | apply Kd.R_alloc | apply Kd.R_drewN | apply Kd.R_drew)); exact Kd.R_mono HO177.out (fun _ hk => ⟨hk.1.1.1.1.1.1.1.1.1.2, ⟨hk.1.1.1.1.1.1.1.1.2, ⟨hk.1.1.1.1.1.1.1.2, ⟨hk.1.1.1.1.1.1.2, ⟨hk.1.1.1.1.1.2, ⟨hk.1.1.1.1.2, ⟨hk.1.1.1.2, ⟨hk.1.2, ⟨hk.1.1.2, hk.2⟩⟩⟩⟩⟩⟩⟩⟩⟩)), (bZ HB.out)⟩)
        ·skip
         refine Kd.R_lit_step k24 _ 24 ?hg (N := 49) ?hd (xs := ([(⟨1, 2⟩ : S24), (⟨6, 9⟩ : S24)] : List (S24))) (inner := [.int .i64 1, .int .i64 2, .int .i64 6, .int .i64 9]) (ok := fun _ => True) (okp := fun _ => True) ?hr ?hp (fun _ hk => hk) trivial (Below.refl _ _) (Nat.le_refl _) (by simp) ?_; (case hd => rfl); (case hg => rfl); (case hr => first | (go_simp; done) | (go_simp; rfl)); (case hp => exact (Reps.c2 (show Kd.M k24 _ _ _ (⟨1, 2⟩ : S24) [.int .i64 1, .int .i64 2] from (k24_mkM _ _ _ (⟨1, 2⟩ : S24) )) (Reps.c2 (show Kd.M k24 _ _ _ (⟨6, 9⟩ : S24) [.int .i64 6, .int .i64 9] from (k24_mkM _ _ _ (⟨6, 9⟩ : S24) )) (Reps.none _ _))))
         intro v176 w42 ho43 hb hg_ hnew_
         clear hg_ hnew_
         (first | rw [← Ny175.out] at ho43 | (simp only [Int.reduceToNat] at ho43; rw [← Ny175.out] at ho43))
         have n0_ := Aside0.mk (Kd.R_elder' (rZ HO136.out) (Kd.R_base ho43) hb)
         have n1_ := Aside0.mk (Kd.R_elder' (rZ HO139.out) (Kd.R_base ho43) hb)
         have n2_ := Aside0.mk (Kd.R_elder' (rZ HO142.out) (Kd.R_base ho43) hb)
         have n3_ := Aside0.mk (Kd.R_elder' (rZ HO145.out) (Kd.R_base ho43) hb)
         have n4_ := Aside0.mk (Kd.R_elder' (rZ HO148.out) (Kd.R_base ho43) hb)
         have n5_ := Aside0.mk (Kd.R_elder' (rZ HO151.out) (Kd.R_base ho43) hb)
         have n6_ := Aside0.mk (Kd.R_elder' (rZ HO163.out) (Kd.R_base ho43) hb)
         have n7_ := Aside0.mk (Kd.R_elder' (rZ HO170.out) (Kd.R_base ho43) hb)
         have n8_ := Aside0.mk (Kd.R_elder' (rZ HO167.out) (Kd.R_base ho43) hb)
         have n9_ := Aside0.mk (Kd.R_lower (Kd.R_new' (Kd.R_new' (Kd.R_new' (Kd.R_new' (Kd.R_new' (Kd.R_new' (Kd.R_new' (Kd.R_new' (Kd.R_new' ho43 (Kd.R_lt (rZ HO136.out))) (Kd.R_lt (rZ HO139.out))) (Kd.R_lt (rZ HO142.out))) (Kd.R_lt (rZ HO145.out))) (Kd.R_lt (rZ HO148.out))) (Kd.R_lt (rZ HO151.out))) (Kd.R_lt (rZ HO163.out))) (Kd.R_lt (rZ HO170.out))) (Kd.R_lt (rZ HO167.out))) (below_size (bZ HB.out)))
         have n10_ := Aside0.mk (Kd.C_below (by repeat (first | (with_reducible exact HR156.out) | (with_reducible refine Kd.C_alloc ?_ _) | (with_reducible refine Kd.C_drewN ?_ _) | (with_reducible refine Kd.C_drew ?_) | exact HR156.out)) hb)
         have n11_ := Aside0.mk (Kd.C_below (by repeat (first | (with_reducible exact HR160.out) | (with_reducible refine Kd.C_alloc ?_ _) | (with_reducible refine Kd.C_drewN ?_ _) | (with_reducible refine Kd.C_drew ?_) | exact HR160.out)) hb)
         have n12_ := Aside0.mk (below_step (bZ HB.out) hb)
         clear HO136
         clear HO139
         clear HO142
         clear HO145
         clear HO148
         clear HO151
         clear HO163
         clear HO170
         clear HO167
         clear HR156
         clear HR160
         clear HB
         have HO136 := n0_
         have HO139 := n1_
         have HO142 := n2_
         have HO145 := n3_
         have HO148 := n4_
         have HO151 := n5_
         have HO163 := n6_
         have HO170 := n7_
         have HO167 := n8_
         have HO177 := n9_
         have HR156 := n10_
         have HR160 := n11_
         have HB := n12_
         clear n0_ n1_ n2_ n3_ n4_ n5_ n6_ n7_ n8_ n9_ n10_ n11_ n12_
         clear hb ho43
         refine hK.out _ _ trivial (fun hHeld => ?_)
         clear hK K
         refine norm_ (a' := ?_) ?_ ?_
         rotate_left
         ·show Act.put _ (some 49) _ = _
          simp only [Act.put, List.setIfInBounds_toArray, List.set_cons_zero, List.set_cons_succ, i64_w, i32_w]
          rfl
         refine one_ (i := 25) (N := some 46) #[true, true, true, true, true, true, true, true, true, true, true, true, true, true, true, true, true, true, true, true, true, true, true, true, true, true, true, true, true, false, false, false] rfl rfl (one_of HT_.out (by kernel_rfl)) (by decide) (fun K hK => ?_)
         refine goes_ Try.func21 (by kernel_rfl) rfl #[.slice Ao29 y143.length co29, .slice Ao28 y140.length co28] (by rfl) rfl rfl (by (try simp only [List.map_toArray, List.map_cons, List.map_nil]); first | done | rfl | (simp only [List.length_drop, List.length_take]; rfl)) ?_
         with_reducible refine (span_Minus.calls _ _ y143 _ _ y140 t172 _ ?side1 ?side2 ?side3 ?side4 A23.out).mono ?_
         (case side1 => repeat (first | exact (Kd.R_reads' HO145.out).2.2 | (with_reducible refine Kd.C_alloc ?_ _) | (with_reducible refine Kd.C_drewN ?_ _) | (with_reducible refine Kd.C_drew ?_)))
         (case side2 => exact (Kd.R_reads' HO145.out).2.1)
         (case side3 => repeat (first | exact (Kd.R_reads' HO142.out).2.2 | (with_reducible refine Kd.C_alloc ?_ _) | (with_reducible refine Kd.C_drewN ?_ _) | (with_reducible refine Kd.C_drew ?_)))
         (case side4 => exact (Kd.R_reads' HO142.out).2.1)
         rintro e w44 ⟨v173, rfl, ho0, hb⟩
         refine ⟨_, rfl, ?_⟩
         have n0_ := Aside0.mk (Kd.R_elder' (rZ HO136.out) (Kd.R_base ho0) hb)
         have n1_ := Aside0.mk (Kd.R_elder' (rZ HO139.out) (Kd.R_base ho0) hb)
         have n2_ := Aside0.mk (Kd.R_elder' (rZ HO142.out) (Kd.R_base ho0) hb)
         have n3_ := Aside0.mk (Kd.R_elder' (rZ HO145.out) (Kd.R_base ho0) hb)
         have n4_ := Aside0.mk (Kd.R_elder' (rZ HO148.out) (Kd.R_base ho0) hb)
         have n5_ := Aside0.mk (Kd.R_elder' (rZ HO151.out) (Kd.R_base ho0) hb)
         have n6_ := Aside0.mk (Kd.R_elder' (rZ HO163.out) (Kd.R_base ho0) hb)
         have n7_ := Aside0.mk (Kd.R_elder' (rZ HO170.out) (Kd.R_base ho0) hb)
         have n8_ := Aside0.mk (Kd.R_elder' (rZ HO167.out) (Kd.R_base ho0) hb)
         have n9_ := Aside0.mk (Kd.R_elder' (rZ HO177.out) (Kd.R_base ho0) hb)
         have n10_ := Aside0.mk (Kd.R_lower (Kd.R_new' (Kd.R_new' (Kd.R_new' (Kd.R_new' (Kd.R_new' (Kd.R_new' (Kd.R_new' (Kd.R_new' (Kd.R_new' (Kd.R_new' ho0 (Kd.R_lt (rZ HO136.out))) (Kd.R_lt (rZ HO139.out))) (Kd.R_lt (rZ HO142.out))) (Kd.R_lt (rZ HO145.out))) (Kd.R_lt (rZ HO148.out))) (Kd.R_lt (rZ HO151.out))) (Kd.R_lt (rZ HO163.out))) (Kd.R_lt (rZ HO170.out))) (Kd.R_lt (rZ HO167.out))) (Kd.R_lt (rZ HO177.out))) (below_size (bZ HB.out)))
         have n11_ := Aside0.mk (Kd.C_below (by repeat (first | (with_reducible exact HR156.out) | (with_reducible refine Kd.C_alloc ?_ _) | (with_reducible refine Kd.C_drewN ?_ _) | (with_reducible refine Kd.C_drew ?_) | exact HR156.out)) hb)
         have n12_ := Aside0.mk (Kd.C_below (by repeat (first | (with_reducible exact HR160.out) | (with_reducible refine Kd.C_alloc ?_ _) | (with_reducible refine Kd.C_drewN ?_ _) | (with_reducible refine Kd.C_drew ?_) | exact HR160.out)) hb)
         have n13_ := Aside0.mk (below_step (bZ HB.out) hb)
         clear HO136
         clear HO139
         clear HO142
         clear HO145
         clear HO148
         clear HO151
         clear HO163
         clear HO170
         clear HO167
         clear HO177
         clear HR156
         clear HR160
         clear HB
         have HO136 := n0_
         have HO139 := n1_
         have HO142 := n2_
         have HO145 := n3_
         have HO148 := n4_
         have HO151 := n5_
         have HO163 := n6_
         have HO170 := n7_
         have HO167 := n8_
         have HO177 := n9_
         have HO174 := n10_
         have HR156 := n11_
         have HR160 := n12_
         have HB := n13_
         clear n0_ n1_ n2_ n3_ n4_ n5_ n6_ n7_ n8_ n9_ n10_ n11_ n12_ n13_
         (try clear hb)
         (try clear hb2)
         (try clear hk)
         (try clear hi)
         (try clear ho0)
         refine hK.out _ _ trivial (fun hHeld => ?_)
         clear hK K
         refine norm_ (a' := ?_) ?_ ?_
         rotate_left
         ·show Act.put _ (some 46) _ = _
          simp only [Act.put, List.setIfInBounds_toArray, List.set_cons_zero, List.set_cons_succ, i64_w, i32_w]
          rfl
         exact norm_ (by simp only [putAll, Act.put, List.setIfInBounds_toArray, List.set_cons_zero, List.set_cons_succ]) (hCont (.slice Ao40 t165.length co40, .slice Ao41 y168.length co41, v173, v176) _ ⟨(by (with_reducible repeat (first | apply Kd.R_alloc | apply Kd.R_drewN | apply Kd.R_drew)); exact Kd.R_mono HO136.out (fun _ hk => ⟨hk.1.1.1.1.1.1.1.1.1.2, ⟨hk.1.1.1.1.1.1.1.1.2, ⟨hk.1.1.1.1.1.1.1.2, ⟨hk.1.1.1.1.1.1.2, ⟨hk.1.1.1.1.1.2, ⟨hk.1.1.1.1.2, ⟨hk.1.1.2, ⟨hk.1.1.1.2, ⟨hk.2, hk.1.2⟩⟩⟩⟩⟩⟩⟩⟩⟩)), (by (with_reducible repeat (first | apply Kd.R_alloc | apply Kd.R_drewN | apply Kd.R_drew)); exact Kd.R_mono HO139.out (fun _ hk => ⟨hk.1.1.1.1.1.1.1.1.1.2, ⟨hk.1.1.1.1.1.1.1.1.2, ⟨hk.1.1.1.1.1.1.1.2, ⟨hk.1.1.1.1.1.1.2, ⟨hk.1.1.1.1.1.2, ⟨hk.1.1.1.1.2, ⟨hk.1.1.2, ⟨hk.1.1.1.2, ⟨hk.2, hk.1.2⟩⟩⟩⟩⟩⟩⟩⟩⟩)), (by (with_reducible repeat (first | apply Kd.R_alloc | apply Kd.R_drewN | apply Kd.R_drew)); exact Kd.R_mono HO142.out (fun _ hk => ⟨hk.1.1.1.1.1.1.1.1.1.2, ⟨hk.1.1.1.1.1.1.1.1.2, ⟨hk.1.1.1.1.1.1.1.2, ⟨hk.1.1.1.1.1.1.2, ⟨hk.1.1.1.1.1.2, ⟨hk.1.1.1.1.2, ⟨hk.1.1.2, ⟨hk.1.1.1.2, ⟨hk.2, hk.1.2⟩⟩⟩⟩⟩⟩⟩⟩⟩)), (by (with_reducible repeat (first | apply Kd.R_alloc | apply Kd.R_drewN | apply Kd.R_drew)); exact Kd.R_mono HO145.out (fun _ hk => ⟨hk.1.1.1.1.1.1.1.1.1.2, ⟨hk.1.1.1.1.1.1.1.1.2, ⟨hk.1.1.1.1.1.1.1.2, ⟨hk.1.1.1.1.1.1.2, ⟨hk.1.1.1.1.1.2, ⟨hk.1.1.1.1.2, ⟨hk.1.1.2, ⟨hk.1.1.1.2, ⟨hk.2, hk.1.2⟩⟩⟩⟩⟩⟩⟩⟩⟩)), (by (with_reducible repeat (first | apply Kd.R_alloc | apply Kd.R_drewN | apply Kd.R_drew)); exact Kd.R_mono HO148.out (fun _ hk => ⟨hk.1.1.1.1.1.1.1.1.1.2, ⟨hk.1.1.1.1.1.1.1.1.2, ⟨hk.1.1.1.1.1.1.1.2, ⟨hk.1.1.1.1.1.1.2, ⟨hk.1.1.1.1.1.2, ⟨hk.1.1.1.1.2, ⟨hk.1.1.2, ⟨hk.1.1.1.2, ⟨hk.2, hk.1.2⟩⟩⟩⟩⟩⟩⟩⟩⟩)), (by (with_reducible repeat (first | apply Kd.R_alloc | apply Kd.R_drewN | apply Kd.R_drew)); exact Kd.R_mono HO151.out (fun _ hk => ⟨hk.1.1.1.1.1.1.1.1.1.2, ⟨hk.1.1.1.1.1.1.1.1.2, ⟨hk.1.1.1.1.1.1.1.2, ⟨hk.1.1.1.1.1.1.2, ⟨hk.1.1.1.1.1.2, ⟨hk.1.1.1.1.2, ⟨hk.1.1.2, ⟨hk.1.1.1.2, ⟨hk.2, hk.1.2⟩⟩⟩⟩⟩⟩⟩⟩⟩)), (by (with_reducible repeat (first | apply Kd.R_alloc | apply Kd.R_drewN | apply Kd.R_drew)); exact Kd.R_mono HO163.out (fun _ hk => ⟨hk.1.1.1.1.1.1.1.1.1.2, ⟨hk.1.1.1.1.1.1.1.1.2, ⟨hk.1.1.1.1.1.1.1.2, ⟨hk.1.1.1.1.1.1.2, ⟨hk.1.1.1.1.1.2, ⟨hk.1.1.1.1.2, ⟨hk.1.1.2, ⟨hk.1.1.1.2, ⟨hk.2, hk.1.2⟩⟩⟩⟩⟩⟩⟩⟩⟩)), (by (with_reducible repeat (first | apply Kd.R_alloc | apply Kd.R_drewN | apply Kd.R_drew)); exact Kd.R_mono HO167.out (fun _ hk => ⟨hk.1.1.1.1.1.1.1.1.1.2, ⟨hk.1.1.1.1.1.1.1.1.2, ⟨hk.1.1.1.1.1.1.1.2, ⟨hk.1.1.1.1.1.1.2, ⟨hk.1.1.1.1.1.2, ⟨hk.1.1.1.1.2, ⟨hk.1.1.1.2, ⟨hk.1.1.2, ⟨hk.2, hk.1.2⟩⟩⟩⟩⟩⟩⟩⟩⟩)), (by (with_reducible repeat (first | apply Kd.R_alloc | apply Kd.R_drewN | apply Kd.R_drew)); exact Kd.R_mono HO170.out (fun _ hk => ⟨hk.1.1.1.1.1.1.1.1.1.2, ⟨hk.1.1.1.1.1.1.1.1.2, ⟨hk.1.1.1.1.1.1.1.2, ⟨hk.1.1.1.1.1.1.2, ⟨hk.1.1.1.1.1.2, ⟨hk.1.1.1.1.2, ⟨hk.1.1.1.2, ⟨hk.1.1.2, ⟨hk.2, hk.1.2⟩⟩⟩⟩⟩⟩⟩⟩⟩)), (by (with_reducible repeat (first | apply Kd.R_alloc | apply Kd.R_drewN | apply Kd.R_drew)); exact Kd.R_mono HO174.out (fun _ hk => ⟨hk.1.1.1.1.1.1.1.1.1.2, ⟨hk.1.1.1.1.1.1.1.1.2, ⟨hk.1.1.1.1.1.1.1.2, ⟨hk.1.1.1.1.1.1.2, ⟨hk.1.1.1.1.1.2, ⟨hk.1.1.1.1.2, ⟨hk.1.1.1.2, ⟨hk.1.2, ⟨hk.1.1.2, hk.2⟩⟩⟩⟩⟩⟩⟩⟩⟩)), (by (with_reducible repeat (first | apply Kd.R_alloc | apply Kd.R_drewN | apply Kd.R_drew)); exact Kd.R_mono HO177.out (fun _ hk => ⟨hk.1.1.1.1.1.1.1.1.1.2, ⟨hk.1.1.1.1.1.1.1.1.2, ⟨hk.1.1.1.1.1.1.1.2, ⟨hk.1.1.1.1.1.1.2, ⟨hk.1.1.1.1.1.2, ⟨hk.1.1.1.1.2, ⟨hk.1.1.1.2, ⟨hk.1.2, ⟨hk.1.1.2, hk.2⟩⟩⟩⟩⟩⟩⟩⟩⟩)), (bZ HB.out)⟩)
      rintro ⟨v166, v169, v173, v176⟩ w45 ⟨h0_, h1_, h2_, h3_, h4_, h5_, h6_, h7_, h8_, h9_, h10_, h11_⟩
      have n0_ : Aside0 (Kd.R k24 24 w45 w.heap.size (fun k_ => some k_ ≠ (.slice Ao27 y137.length co27 : Value).ownBlock ∧ some k_ ≠ (.slice Ao28 y140.length co28 : Value).ownBlock ∧ some k_ ≠ (.slice Ao29 y143.length co29 : Value).ownBlock ∧ some k_ ≠ (.slice Ao26 y146.length co26 : Value).ownBlock ∧ some k_ ≠ (.slice Ao32 t149.length co32 : Value).ownBlock ∧ some k_ ≠ (.slice Ao36 t161.length co36 : Value).ownBlock ∧ some k_ ≠ (v166 : Value).ownBlock ∧ some k_ ≠ (v169 : Value).ownBlock ∧ some k_ ≠ (v173 : Value).ownBlock ∧ some k_ ≠ (v176 : Value).ownBlock) (.slice Ao25 y134.length co25) y134) := ⟨h0_⟩
      have n1_ : Aside0 (Kd.R k24 24 w45 w.heap.size (fun k_ => some k_ ≠ (.slice Ao25 y134.length co25 : Value).ownBlock ∧ some k_ ≠ (.slice Ao28 y140.length co28 : Value).ownBlock ∧ some k_ ≠ (.slice Ao29 y143.length co29 : Value).ownBlock ∧ some k_ ≠ (.slice Ao26 y146.length co26 : Value).ownBlock ∧ some k_ ≠ (.slice Ao32 t149.length co32 : Value).ownBlock ∧ some k_ ≠ (.slice Ao36 t161.length co36 : Value).ownBlock ∧ some k_ ≠ (v166 : Value).ownBlock ∧ some k_ ≠ (v169 : Value).ownBlock ∧ some k_ ≠ (v173 : Value).ownBlock ∧ some k_ ≠ (v176 : Value).ownBlock) (.slice Ao27 y137.length co27) y137) := ⟨h1_⟩
      have n2_ : Aside0 (Kd.R k24 24 w45 w.heap.size (fun k_ => some k_ ≠ (.slice Ao25 y134.length co25 : Value).ownBlock ∧ some k_ ≠ (.slice Ao27 y137.length co27 : Value).ownBlock ∧ some k_ ≠ (.slice Ao29 y143.length co29 : Value).ownBlock ∧ some k_ ≠ (.slice Ao26 y146.length co26 : Value).ownBlock ∧ some k_ ≠ (.slice Ao32 t149.length co32 : Value).ownBlock ∧ some k_ ≠ (.slice Ao36 t161.length co36 : Value).ownBlock ∧ some k_ ≠ (v166 : Value).ownBlock ∧ some k_ ≠ (v169 : Value).ownBlock ∧ some k_ ≠ (v173 : Value).ownBlock ∧ some k_ ≠ (v176 : Value).ownBlock) (.slice Ao28 y140.length co28) y140) := ⟨h2_⟩
      have n3_ : Aside0 (Kd.R k24 24 w45 w.heap.size (fun k_ => some k_ ≠ (.slice Ao25 y134.length co25 : Value).ownBlock ∧ some k_ ≠ (.slice Ao27 y137.length co27 : Value).ownBlock ∧ some k_ ≠ (.slice Ao28 y140.length co28 : Value).ownBlock ∧ some k_ ≠ (.slice Ao26 y146.length co26 : Value).ownBlock ∧ some k_ ≠ (.slice Ao32 t149.length co32 : Value).ownBlock ∧ some k_ ≠ (.slice Ao36 t161.length co36 : Value).ownBlock ∧ some k_ ≠ (v166 : Value).ownBlock ∧ some k_ ≠ (v169 : Value).ownBlock ∧ some k_ ≠ (v173 : Value).ownBlock ∧ some k_ ≠ (v176 : Value).ownBlock) (.slice Ao29 y143.length co29) y143) := ⟨h3_⟩
      have n4_ : Aside0 (Kd.R k24 24 w45 w.heap.size (fun k_ => some k_ ≠ (.slice Ao25 y134.length co25 : Value).ownBlock ∧ some k_ ≠ (.slice Ao27 y137.length co27 : Value).ownBlock ∧ some k_ ≠ (.slice Ao28 y140.length co28 : Value).ownBlock ∧ some k_ ≠ (.slice Ao29 y143.length co29 : Value).ownBlock ∧ some k_ ≠ (.slice Ao32 t149.length co32 : Value).ownBlock ∧ some k_ ≠ (.slice Ao36 t161.length co36 : Value).ownBlock ∧ some k_ ≠ (v166 : Value).ownBlock ∧ some k_ ≠ (v169 : Value).ownBlock ∧ some k_ ≠ (v173 : Value).ownBlock ∧ some k_ ≠ (v176 : Value).ownBlock) (.slice Ao26 y146.length co26) y146) := ⟨h4_⟩
      have n5_ : Aside0 (Kd.R k24 24 w45 w.heap.size (fun k_ => some k_ ≠ (.slice Ao25 y134.length co25 : Value).ownBlock ∧ some k_ ≠ (.slice Ao27 y137.length co27 : Value).ownBlock ∧ some k_ ≠ (.slice Ao28 y140.length co28 : Value).ownBlock ∧ some k_ ≠ (.slice Ao29 y143.length co29 : Value).ownBlock ∧ some k_ ≠ (.slice Ao26 y146.length co26 : Value).ownBlock ∧ some k_ ≠ (.slice Ao36 t161.length co36 : Value).ownBlock ∧ some k_ ≠ (v166 : Value).ownBlock ∧ some k_ ≠ (v169 : Value).ownBlock ∧ some k_ ≠ (v173 : Value).ownBlock ∧ some k_ ≠ (v176 : Value).ownBlock) (.slice Ao32 t149.length co32) t149) := ⟨h5_⟩
      have n6_ : Aside0 (Kd.R k24 24 w45 w.heap.size (fun k_ => some k_ ≠ (.slice Ao25 y134.length co25 : Value).ownBlock ∧ some k_ ≠ (.slice Ao27 y137.length co27 : Value).ownBlock ∧ some k_ ≠ (.slice Ao28 y140.length co28 : Value).ownBlock ∧ some k_ ≠ (.slice Ao29 y143.length co29 : Value).ownBlock ∧ some k_ ≠ (.slice Ao26 y146.length co26 : Value).ownBlock ∧ some k_ ≠ (.slice Ao32 t149.length co32 : Value).ownBlock ∧ some k_ ≠ (v166 : Value).ownBlock ∧ some k_ ≠ (v169 : Value).ownBlock ∧ some k_ ≠ (v173 : Value).ownBlock ∧ some k_ ≠ (v176 : Value).ownBlock) (.slice Ao36 t161.length co36) t161) := ⟨h6_⟩
      have n7_ : Aside0 (Kd.R k24 24 w45 w.heap.size (fun k_ => some k_ ≠ (.slice Ao25 y134.length co25 : Value).ownBlock ∧ some k_ ≠ (.slice Ao27 y137.length co27 : Value).ownBlock ∧ some k_ ≠ (.slice Ao28 y140.length co28 : Value).ownBlock ∧ some k_ ≠ (.slice Ao29 y143.length co29 : Value).ownBlock ∧ some k_ ≠ (.slice Ao26 y146.length co26 : Value).ownBlock ∧ some k_ ≠ (.slice Ao32 t149.length co32 : Value).ownBlock ∧ some k_ ≠ (.slice Ao36 t161.length co36 : Value).ownBlock ∧ some k_ ≠ (v169 : Value).ownBlock ∧ some k_ ≠ (v173 : Value).ownBlock ∧ some k_ ≠ (v176 : Value).ownBlock) v166 t165) := ⟨h7_⟩
      have n8_ : Aside0 (Kd.R k24 24 w45 w.heap.size (fun k_ => some k_ ≠ (.slice Ao25 y134.length co25 : Value).ownBlock ∧ some k_ ≠ (.slice Ao27 y137.length co27 : Value).ownBlock ∧ some k_ ≠ (.slice Ao28 y140.length co28 : Value).ownBlock ∧ some k_ ≠ (.slice Ao29 y143.length co29 : Value).ownBlock ∧ some k_ ≠ (.slice Ao26 y146.length co26 : Value).ownBlock ∧ some k_ ≠ (.slice Ao32 t149.length co32 : Value).ownBlock ∧ some k_ ≠ (.slice Ao36 t161.length co36 : Value).ownBlock ∧ some k_ ≠ (v166 : Value).ownBlock ∧ some k_ ≠ (v173 : Value).ownBlock ∧ some k_ ≠ (v176 : Value).ownBlock) v169 y168) := ⟨h8_⟩
      have n9_ : Aside0 (Kd.R k24 24 w45 w.heap.size (fun k_ => some k_ ≠ (.slice Ao25 y134.length co25 : Value).ownBlock ∧ some k_ ≠ (.slice Ao27 y137.length co27 : Value).ownBlock ∧ some k_ ≠ (.slice Ao28 y140.length co28 : Value).ownBlock ∧ some k_ ≠ (.slice Ao29 y143.length co29 : Value).ownBlock ∧ some k_ ≠ (.slice Ao26 y146.length co26 : Value).ownBlock ∧ some k_ ≠ (.slice Ao32 t149.length co32 : Value).ownBlock ∧ some k_ ≠ (.slice Ao36 t161.length co36 : Value).ownBlock ∧ some k_ ≠ (v166 : Value).ownBlock ∧ some k_ ≠ (v169 : Value).ownBlock ∧ some k_ ≠ (v176 : Value).ownBlock) v173 t172) := ⟨h9_⟩
      have n10_ : Aside0 (Kd.R k24 24 w45 w.heap.size (fun k_ => some k_ ≠ (.slice Ao25 y134.length co25 : Value).ownBlock ∧ some k_ ≠ (.slice Ao27 y137.length co27 : Value).ownBlock ∧ some k_ ≠ (.slice Ao28 y140.length co28 : Value).ownBlock ∧ some k_ ≠ (.slice Ao29 y143.length co29 : Value).ownBlock ∧ some k_ ≠ (.slice Ao26 y146.length co26 : Value).ownBlock ∧ some k_ ≠ (.slice Ao32 t149.length co32 : Value).ownBlock ∧ some k_ ≠ (.slice Ao36 t161.length co36 : Value).ownBlock ∧ some k_ ≠ (v166 : Value).ownBlock ∧ some k_ ≠ (v169 : Value).ownBlock ∧ some k_ ≠ (v173 : Value).ownBlock) v176 y175) := ⟨h10_⟩
      have n11_ : Aside0 (Below w.heap.size w w45) := ⟨h11_⟩
      clear HO136
      clear HO139
      clear HO142
      clear HO145
      clear HO148
      clear HB
      clear h0_ h1_ h2_ h3_ h4_ h5_ h6_ h7_ h8_ h9_ h10_ h11_
      have HO136 := n0_
      have HO139 := n1_
      have HO142 := n2_
      have HO145 := n3_
      have HO148 := n4_
      have HO151 := n5_
      have HO163 := n6_
      have HO167 := n7_
      have HO170 := n8_
      have HO174 := n9_
      have HO177 := n10_
      have HB := n11_
      clear n0_ n1_ n2_ n3_ n4_ n5_ n6_ n7_ n8_ n9_ n10_ n11_
      have hHeld := trivial
      obtain ⟨Ao46, co46, eo46⟩ := Kd.R_slice HO174.out
      (first | subst eo46 | (injection eo46 with f1_ f2_ f3_; have f4_ := f1_.symm; have f5_ := f3_.symm; clear f1_ f2_ f3_; subst f4_; subst f5_))
      obtain ⟨Ao47, co47, eo47⟩ := Kd.R_slice HO177.out
      (first | subst eo47 | (injection eo47 with f1_ f2_ f3_; have f4_ := f1_.symm; have f5_ := f3_.symm; clear f1_ f2_ f3_; subst f4_; subst f5_))
      refine norm_ (a' := ?_) ?_ ?_
      rotate_left
      ·simp only [putAll, Act.put, List.setIfInBounds_toArray, List.set_cons_zero, List.set_cons_succ]
       rfl
      refine one_ (i := 29) (N := some 50) #[true, true, true, true, true, true, true, true, true, true, true, true, true, true, true, true, true, true, true, true, true, true, true, true, true, true, true, true, true, true, false, false] rfl rfl (one_of HT_.out (by kernel_rfl)) (by decide) (fun K hK => ?_)
      refine goes_ Try.func14 (by kernel_rfl) rfl #[.slice Ao46 t172.length co46, .slice Ao47 y175.length co47] (by rfl) rfl rfl (by (try simp only [List.map_toArray, List.map_cons, List.map_nil]); first | done | rfl | (simp only [List.length_drop, List.length_take]; rfl)) ?_
      with_reducible refine (r11_Same.calls k _ _ t172 _ _ y175 t178 _ ?side1 ?side2 ?side3 ?side4 A24.out).mono ?_
      (case side1 => repeat (first | exact (Kd.R_reads' HO174.out).2.2 | (with_reducible refine Kd.C_alloc ?_ _) | (with_reducible refine Kd.C_drewN ?_ _) | (with_reducible refine Kd.C_drew ?_)))
      (case side2 => exact (Kd.R_reads' HO174.out).2.1)
      (case side3 => repeat (first | exact (Kd.R_reads' HO177.out).2.2 | (with_reducible refine Kd.C_alloc ?_ _) | (with_reducible refine Kd.C_drewN ?_ _) | (with_reducible refine Kd.C_drew ?_)))
      (case side4 => exact (Kd.R_reads' HO177.out).2.1)
      rintro e w' ⟨rfl, ⟨nd, rfl⟩⟩
      refine ⟨_, rfl, ?_⟩
      refine hK.out _ _ trivial (fun hHeld => ?_)
      clear hK K
      refine norm_ (a' := ?_) ?_ ?_
      rotate_left
      ·show Act.put _ (some 50) _ = _
       simp only [Act.put, List.setIfInBounds_toArray, List.set_cons_zero, List.set_cons_succ, i64_w, i32_w]
       rfl
      refine pure_ (i := 30) (N := some 51) (v := ?_) (a' := ?_) #[true, true, true, true, true, true, true, true, true, true, true, true, true, true, true, true, true, true, true, true, true, true, true, true, true, true, true, true, true, true, true, false] rfl rfl (any_of HT_.out (by kernel_rfl)) (fun _ _ _ h => h) (Or.inl ⟨by rfl, ?_⟩) ?_ ?_
      rotate_left
      ·intro w'
       go_simp
       with_reducible rfl
      rotate_left
      ·simp only [Act.put, List.setIfInBounds_toArray, List.set_cons_zero, List.set_cons_succ, i64_w, i32_w]
       rfl
      refine pure_ (i := 31) (N := some 6) (v := ?_) (a' := ?_) #[true, true, true, true, true, true, true, true, true, true, true, true, true, true, true, true, true, true, true, true, true, true, true, true, true, true, true, true, true, true, true, true] rfl rfl (any_of HT_.out (by kernel_rfl)) (fun _ _ _ h => h) (Or.inl ⟨by rfl, ?_⟩) ?_ ?_
      rotate_left
      ·intro w'
       go_simp
       with_reducible rfl
      rotate_left
      ·simp only [Act.put, List.setIfInBounds_toArray, List.set_cons_zero, List.set_cons_succ, i64_w, i32_w]
       rfl
      refine done_ (done_of HT_.out (by kernel_rfl)) ?_
      try go_wp2
      go_meet
      case rel => exact ⟨_, (t178), (by first | rfl | (simp; done) | (simp [*]; done)), H', ⟨by first | omega | exact Nat.le_refl _⟩, ⟨by (with_reducible repeat (first | apply Kd.R_alloc | apply Kd.R_drewN | apply Kd.R_drew)); exact Kd.R_mono HO136.out (fun _ hk => ⟨hk.1, hk.2.2.2.1⟩)⟩, ⟨by (with_reducible repeat (first | apply Kd.R_alloc | apply Kd.R_drewN | apply Kd.R_drew)); exact Kd.R_mono HO139.out (fun _ hk => ⟨hk.1, hk.2.2.2.1⟩)⟩, ⟨by (with_reducible repeat (first | apply Kd.R_alloc | apply Kd.R_drewN | apply Kd.R_drew)); exact Kd.R_mono HO148.out (fun _ hk => ⟨hk.1, hk.2.1⟩)⟩, ⟨by repeat (first | (with_reducible first | exact HB.out | apply below_alloc | apply pw_below_drewN | apply below_drew1) | exact HB.out)⟩⟩
     ·replace c22 := Bool.eq_false_iff.mpr c22
      subst c22
      have H1 : (l11_sanity.j0 k y134 y137 y146 false) = some r := by rw [if_neg (show ¬ (false = true) by decide)] at H; exact H
      clear H
      have H := H1
      clear H1
      have H' := Aside0.mk H
      clear H
      obtain ⟨Ao48, co48, eo48⟩ := Kd.R_slice HO136.out
      subst eo48
      obtain ⟨Ao49, co49, eo49⟩ := Kd.R_slice HO148.out
      subst eo49
      obtain ⟨Ao50, co50, eo50⟩ := Kd.R_slice HO139.out
      subst eo50
      obtain ⟨Ao51, co51, eo51⟩ := Kd.R_slice HO142.out
      subst eo51
      try go_wp2
      have n0_ := Aside0.mk (Kd.R_drew HO136.out)
      have n1_ := Aside0.mk (Kd.R_drew HO139.out)
      have n2_ := Aside0.mk (Kd.R_drew HO142.out)
      have n3_ := Aside0.mk (Kd.R_drew HO145.out)
      have n4_ := Aside0.mk (Kd.R_drew HO148.out)
      have n5_ := Aside0.mk (below_drew1 HB.out)
      clear HO136
      clear HO139
      clear HO142
      clear HO145
      clear HO148
      clear HB
      have HO136 := n0_
      have HO139 := n1_
      have HO142 := n2_
      have HO145 := n3_
      have HO148 := n4_
      have HB := n5_
      clear n0_ n1_ n2_ n3_ n4_ n5_
      refine start_ (n := 32) (S := fun w' => True) (ds := []) #[false, false, false, false, false, false, false, false, false, false, false, false, false, false, false, false, false, false, false, false, false, false, false, false, false, false, false, false, false, false, false, false] (by kernel_rfl) rfl rfl trivial (fun hHeld => ?_); refine with_tabW l11_sanity.tab3 l11_sanity.bits3 (fun HT_ HW_ => ?_)
      generalize w10.drew = w52 at HO136 HO139 HO142 HO145 HO148 HB hHeld ⊢
      refine pure_ (i := 0) (N := some 21) (v := ?_) (a' := ?_) #[true, false, false, false, false, false, false, false, false, false, false, false, false, false, false, false, false, false, false, false, false, false, false, false, false, false, false, false, false, false, false, false] rfl rfl (any_of HT_.out (by kernel_rfl)) (fun _ _ _ h => h) (Or.inl ⟨by rfl, ?_⟩) ?_ ?_
      rotate_left
      ·intro w'
       go_simp
       with_reducible rfl
      rotate_left
      ·simp only [Act.put, List.setIfInBounds_toArray, List.set_cons_zero, List.set_cons_succ, i64_w, i32_w]
       rfl
      refine pure_ (i := 2) (N := some 23) (v := ?_) (a' := ?_) #[true, false, true, false, false, false, false, false, false, false, false, false, false, false, false, false, false, false, false, false, false, false, false, false, false, false, false, false, false, false, false, false] rfl rfl (any_of HT_.out (by kernel_rfl)) (fun _ _ _ h => h) (Or.inl ⟨by rfl, ?_⟩) ?_ ?_
      rotate_left
      ·intro w'
       go_simp
       with_reducible rfl
      rotate_left
      ·simp only [Act.put, List.setIfInBounds_toArray, List.set_cons_zero, List.set_cons_succ, i64_w, i32_w]
       rfl
      refine one_ (i := 1) (N := some 22) #[true, true, true, false, false, false, false, false, false, false, false, false, false, false, false, false, false, false, false, false, false, false, false, false, false, false, false, false, false, false, false, false] rfl rfl (one_of HT_.out (by kernel_rfl)) (by decide) (fun K hK => ?_)
      refine goes_ Try.func15 (by kernel_rfl) rfl #[.slice Ao48 y134.length co48] (by rfl) rfl rfl (by (try simp only [List.map_toArray, List.map_cons, List.map_nil]); first | done | rfl | (simp only [List.length_drop, List.length_take]; rfl)) ?_
      with_reducible refine (span_Norm.calls _ _ y134 t149 _ ?side1 ?side2 A12.out).mono ?_
      (case side1 => repeat (first | exact (Kd.R_reads' HO136.out).2.2 | (with_reducible refine Kd.C_alloc ?_ _) | (with_reducible refine Kd.C_drewN ?_ _) | (with_reducible refine Kd.C_drew ?_)))
      (case side2 => exact (Kd.R_reads' HO136.out).2.1)
      rintro e w53 ⟨v150, rfl, ho0, hb⟩
      refine ⟨_, rfl, ?_⟩
      have n0_ := Aside0.mk (Kd.R_elder' (rZ HO136.out) (Kd.R_base ho0) hb)
      have n1_ := Aside0.mk (Kd.R_elder' (rZ HO139.out) (Kd.R_base ho0) hb)
      have n2_ := Aside0.mk (Kd.R_elder' (rZ HO142.out) (Kd.R_base ho0) hb)
      have n3_ := Aside0.mk (Kd.R_elder' (rZ HO145.out) (Kd.R_base ho0) hb)
      have n4_ := Aside0.mk (Kd.R_elder' (rZ HO148.out) (Kd.R_base ho0) hb)
      have n5_ := Aside0.mk (Kd.R_lower (Kd.R_new' (Kd.R_new' (Kd.R_new' (Kd.R_new' (Kd.R_new' ho0 (Kd.R_lt (rZ HO136.out))) (Kd.R_lt (rZ HO139.out))) (Kd.R_lt (rZ HO142.out))) (Kd.R_lt (rZ HO145.out))) (Kd.R_lt (rZ HO148.out))) (below_size (bZ HB.out)))
      have n6_ := Aside0.mk (below_step (bZ HB.out) hb)
      clear HO136
      clear HO139
      clear HO142
      clear HO145
      clear HO148
      clear HB
      have HO136 := n0_
      have HO139 := n1_
      have HO142 := n2_
      have HO145 := n3_
      have HO148 := n4_
      have HO151 := n5_
      have HB := n6_
      clear n0_ n1_ n2_ n3_ n4_ n5_ n6_
      (try clear hb)
      (try clear hb2)
      (try clear hk)
      (try clear hi)
      (try clear ho0)
      obtain ⟨Ao54, co54, eo54⟩ := Kd.R_slice HO151.out
      (first | subst eo54 | (injection eo54 with f1_ f2_ f3_; have f4_ := f1_.symm; have f5_ := f3_.symm; clear f1_ f2_ f3_; subst f4_; subst f5_))
      refine hK.out _ _ trivial (fun hHeld => ?_)
      clear hK K
      refine norm_ (a' := ?_) ?_ ?_
      rotate_left
      ·show Act.put _ (some 22) _ = _
       simp only [Act.put, List.setIfInBounds_toArray, List.set_cons_zero, List.set_cons_succ, i64_w, i32_w]
       rfl
      refine one_ (i := 3) (N := some 24) #[true, true, true, true, false, false, false, false, false, false, false, false, false, false, false, false, false, false, false, false, false, false, false, false, false, false, false, false, false, false, false, false] rfl rfl (one_of HT_.out (by kernel_rfl)) (by decide) (fun K hK => ?_)
      refine goes_ Try.func14 (by kernel_rfl) rfl #[.slice Ao54 t149.length co54, .slice Ao49 y146.length co49] (by rfl) rfl rfl (by (try simp only [List.map_toArray, List.map_cons, List.map_nil]); first | done | rfl | (simp only [List.length_drop, List.length_take]; rfl)) ?_
      with_reducible refine (r11_Same.calls k _ _ t149 _ _ y146 true _ ?side1 ?side2 ?side3 ?side4 A13.out).mono ?_
      (case side1 => repeat (first | exact (Kd.R_reads' HO151.out).2.2 | (with_reducible refine Kd.C_alloc ?_ _) | (with_reducible refine Kd.C_drewN ?_ _) | (with_reducible refine Kd.C_drew ?_)))
      (case side2 => exact (Kd.R_reads' HO151.out).2.1)
      (case side3 => repeat (first | exact (Kd.R_reads' HO148.out).2.2 | (with_reducible refine Kd.C_alloc ?_ _) | (with_reducible refine Kd.C_drewN ?_ _) | (with_reducible refine Kd.C_drew ?_)))
      (case side4 => exact (Kd.R_reads' HO148.out).2.1)
      rintro e w' ⟨rfl, ⟨nd, rfl⟩⟩
      refine ⟨_, rfl, ?_⟩
      have q55 : (1 : Int) ≤ ((y137.length : Int) : Int) := of_decide_eq_true (by first | (with_reducible assumption) | assumption)
      obtain ⟨i055, hi055, _, hsz55, _⟩ := info_parts info24
      have hroom55 : y137.length ≤ co50 := (Kd.R_reads' HO139.out).2.1
      have hC55 : Kd.C k24 _ Ao50 y137.length y137 := (Kd.R_reads' HO139.out).2.2
      have hcut55 := cut_to (P := Try.prog) 22 24 .i64 Try.underlying22 hi055 Ao50 y137.length co50 1 (by omega) q55 hroom55
      have hr55 := Kd.C_take (m := 1) hC55 (by omega)
      have hy55 : y153.length = (1 : Int).toNat := (by rw [Ny153.out, List.length_take]; omega)
      rw [← Ny153.out] at hr55
      rw [← hy55] at hcut55
      have HR156 := Aside0.mk hr55
      have HC156 := Aside0.mk (show y153.length ≤ co50 from by omega)
      clear hr55 hC55 hroom55 hi055 hsz55
      have KY55 := Aside0.mk hy55
      clear hy55
      have KL55 := Aside0.mk (show 1 ≤ y137.length from by omega)
      replace q55 := eq_true q55
      have q56 : (1 : Int) ≤ ((y137.length : Int) : Int) := of_decide_eq_true (by first | (with_reducible assumption) | assumption)
      obtain ⟨i056, hi056, _, hsz56, _⟩ := info_parts info24
      have hroom56 : y137.length ≤ co50 := (Kd.R_reads' HO139.out).2.1
      have hC56 : Kd.C k24 _ Ao50 y137.length y137 := (Kd.R_reads' HO139.out).2.2
      have hcut56 := cut_from (P := Try.prog) 22 24 .i64 Try.underlying22 hi056 2 hsz56 Ao50 y137.length co50 1 (by omega) q56
      have hr56 := Kd.C_drop (m := (1 : Int).toNat) (c := co50) hC56 (by omega) hroom56
      obtain ⟨A56, hA56⟩ : ∃ A1, A1 = (if co50 = (1 : Int).toNat then Ao50 else (Ao50 : Option Addr).map (·.add ((1 : Int).toNat * 2))) := ⟨_, rfl⟩
      obtain ⟨c56, hc56⟩ : ∃ c1, c1 = co50 - (1 : Int).toNat := ⟨_, rfl⟩
      have hy56 : y157.length = y137.length - (1 : Int).toNat := (by rw [Ny157.out, List.length_drop] <;> omega)
      rw [show (y137).drop (1 : Int).toNat = y157 from Ny157.out.symm] at hr56
      replace hr56 : Kd.C k24 _ A56 y157.length y157 := (by rw [hA56]; exact hr56)
      rw [← hy56, ← hA56, ← hc56] at hcut56
      have HR160 := Aside0.mk hr56
      have HC160 := Aside0.mk (show y157.length ≤ c56 from by rw [hy56, hc56]; exact Nat.sub_le_sub_right hroom56 _)
      clear hr56 hC56 hroom56 hi056 hsz56 hc56
      have KY56 := Aside0.mk hy56
      have KA56 := Aside0.mk hA56
      clear hy56 hA56
      have KL56 := Aside0.mk (show 1 ≤ y137.length from by omega)
      replace q56 := eq_true q56
      refine hK.out _ _ trivial (fun hHeld => ?_)
      clear hK K
      refine norm_ (a' := ?_) ?_ ?_
      rotate_left
      ·show Act.put _ (some 24) _ = _
       simp only [Act.put, List.setIfInBounds_toArray, List.set_cons_zero, List.set_cons_succ, i64_w, i32_w]
       rfl
      refine pure_ (i := 4) (N := some 25) (v := ?_) (a' := ?_) #[true, true, true, true, true, false, false, false, false, false, false, false, false, false, false, false, false, false, false, false, false, false, false, false, false, false, false, false, false, false, false, false] rfl rfl (any_of HT_.out (by kernel_rfl)) (fun _ _ _ h => h) (Or.inl ⟨by rfl, ?_⟩) ?_ ?_
      rotate_left
      ·intro w'
       go_simp
       with_reducible rfl
      rotate_left
      ·simp only [Act.put, List.setIfInBounds_toArray, List.set_cons_zero, List.set_cons_succ, i64_w, i32_w]
       rfl
      refine pure_ (i := 5) (N := some 26) (v := ?_) (a' := ?_) #[true, true, true, true, true, true, false, false, false, false, false, false, false, false, false, false, false, false, false, false, false, false, false, false, false, false, false, false, false, false, false, false] rfl rfl (any_of HT_.out (by kernel_rfl)) (fun _ _ _ h => h) (Or.inl ⟨by rfl, ?_⟩) ?_ ?_
      rotate_left
      ·intro w'
       go_simp
       with_reducible rfl
      rotate_left
      ·simp only [Act.put, List.setIfInBounds_toArray, List.set_cons_zero, List.set_cons_succ, i64_w, i32_w]
       rfl
      refine pure_ (i := 6) (N := some 27) (v := ?_) (a' := ?_) #[true, true, true, true, true, true, true, false, false, false, false, false, false, false, false, false, false, false, false, false, false, false, false, false, false, false, false, false, false, false, false, false] rfl rfl (any_of HT_.out (by kernel_rfl)) (fun _ _ _ h => h) (Or.inl ⟨by rfl, ?_⟩) ?_ ?_
      rotate_left
      ·intro w'
       go_simp
       with_reducible rfl
      rotate_left
      ·simp only [Act.put, List.setIfInBounds_toArray, List.set_cons_zero, List.set_cons_succ, i64_w, i32_w]
       rfl
      refine pure_ (i := 7) (N := some 28) (v := ?_) (a' := ?_) #[true, true, true, true, true, true, true, true, false, false, false, false, false, false, false, false, false, false, false, false, false, false, false, false, false, false, false, false, false, false, false, false] rfl rfl (any_of HT_.out (by kernel_rfl)) (fun _ _ _ h => h) (Or.inl ⟨by rfl, ?_⟩) ?_ ?_
      rotate_left
      ·intro w'
       go_simp
       with_reducible rfl
      rotate_left
      ·simp only [Act.put, List.setIfInBounds_toArray, List.set_cons_zero, List.set_cons_succ, i64_w, i32_w]
       rfl
      refine pure_ (i := 8) (N := some 29) (v := ?_) (a' := ?_) #[true, true, true, true, true, true, true, true, true, false, false, false, false, false, false, false, false, false, false, false, false, false, false, false, false, false, false, false, false, false, false, false] rfl rfl (any_of HT_.out (by kernel_rfl)) (fun _ _ _ h => h) (Or.inl ⟨by rfl, ?_⟩) ?_ ?_
      rotate_left
      ·intro w'
       go_simp
       with_reducible rfl
      rotate_left
      ·simp only [Act.put, List.setIfInBounds_toArray, List.set_cons_zero, List.set_cons_succ, i64_w, i32_w]
       rfl
      refine pure_ (i := 10) (N := some 31) (v := ?_) (a' := ?_) #[true, true, true, true, true, true, true, true, true, false, true, false, false, false, false, false, false, false, false, false, false, false, false, false, false, false, false, false, false, false, false, false] rfl rfl (any_of HT_.out (by kernel_rfl)) (fun _ _ _ h => h) (Or.inl ⟨by rfl, ?_⟩) ?_ ?_
      rotate_left
      ·intro w'
       go_simp
       with_reducible rfl
      rotate_left
      ·simp only [Act.put, List.setIfInBounds_toArray, List.set_cons_zero, List.set_cons_succ, i64_w, i32_w]
       rfl
      refine one_ (i := 9) (N := some 30) #[true, true, true, true, true, true, true, true, true, true, true, false, false, false, false, false, false, false, false, false, false, false, false, false, false, false, false, false, false, false, false, false] rfl rfl (one_of HT_.out (by kernel_rfl)) (by decide) (fun K hK => ?_)
      refine goes_ Try.func17 (by kernel_rfl) rfl #[.slice Ao50 y153.length co50, .slice A56 y157.length c56] (by rfl) rfl rfl (by (try simp only [List.map_toArray, List.map_cons, List.map_nil]); first | done | rfl | (simp only [List.length_drop, List.length_take]; rfl)) ?_
      with_reducible refine (span_Union.calls _ _ y153 _ _ y157 t161 _ ?side1 ?side2 ?side3 ?side4 A17.out).mono ?_
      (case side1 => repeat (first | exact (by repeat (first | (with_reducible exact HR156.out) | (with_reducible refine Kd.C_alloc ?_ _) | (with_reducible refine Kd.C_drewN ?_ _) | (with_reducible refine Kd.C_drew ?_) | exact HR156.out)) | (with_reducible refine Kd.C_alloc ?_ _) | (with_reducible refine Kd.C_drewN ?_ _) | (with_reducible refine Kd.C_drew ?_)))
      (case side2 => exact HC156.out)
      (case side3 => repeat (first | exact (by repeat (first | (with_reducible exact HR160.out) | (with_reducible refine Kd.C_alloc ?_ _) | (with_reducible refine Kd.C_drewN ?_ _) | (with_reducible refine Kd.C_drew ?_) | exact HR160.out)) | (with_reducible refine Kd.C_alloc ?_ _) | (with_reducible refine Kd.C_drewN ?_ _) | (with_reducible refine Kd.C_drew ?_)))
      (case side4 => exact HC160.out)
      rintro e w57 ⟨v162, rfl, ho0, hb⟩
      refine ⟨_, rfl, ?_⟩
      have n0_ := Aside0.mk (Kd.R_elder' (rZ HO136.out) (Kd.R_base ho0) hb)
      have n1_ := Aside0.mk (Kd.R_elder' (rZ HO139.out) (Kd.R_base ho0) hb)
      have n2_ := Aside0.mk (Kd.R_elder' (rZ HO142.out) (Kd.R_base ho0) hb)
      have n3_ := Aside0.mk (Kd.R_elder' (rZ HO145.out) (Kd.R_base ho0) hb)
      have n4_ := Aside0.mk (Kd.R_elder' (rZ HO148.out) (Kd.R_base ho0) hb)
      have n5_ := Aside0.mk (Kd.R_elder' (rZ HO151.out) (Kd.R_base ho0) hb)
      have n6_ := Aside0.mk (Kd.R_lower (Kd.R_new' (Kd.R_new' (Kd.R_new' (Kd.R_new' (Kd.R_new' (Kd.R_new' ho0 (Kd.R_lt (rZ HO136.out))) (Kd.R_lt (rZ HO139.out))) (Kd.R_lt (rZ HO142.out))) (Kd.R_lt (rZ HO145.out))) (Kd.R_lt (rZ HO148.out))) (Kd.R_lt (rZ HO151.out))) (below_size (bZ HB.out)))
      have n7_ := Aside0.mk (Kd.C_below (by repeat (first | (with_reducible exact HR156.out) | (with_reducible refine Kd.C_alloc ?_ _) | (with_reducible refine Kd.C_drewN ?_ _) | (with_reducible refine Kd.C_drew ?_) | exact HR156.out)) hb)
      have n8_ := Aside0.mk (Kd.C_below (by repeat (first | (with_reducible exact HR160.out) | (with_reducible refine Kd.C_alloc ?_ _) | (with_reducible refine Kd.C_drewN ?_ _) | (with_reducible refine Kd.C_drew ?_) | exact HR160.out)) hb)
      have n9_ := Aside0.mk (below_step (bZ HB.out) hb)
      clear HO136
      clear HO139
      clear HO142
      clear HO145
      clear HO148
      clear HO151
      clear HR156
      clear HR160
      clear HB
      have HO136 := n0_
      have HO139 := n1_
      have HO142 := n2_
      have HO145 := n3_
      have HO148 := n4_
      have HO151 := n5_
      have HO163 := n6_
      have HR156 := n7_
      have HR160 := n8_
      have HB := n9_
      clear n0_ n1_ n2_ n3_ n4_ n5_ n6_ n7_ n8_ n9_
      (try clear hb)
      (try clear hb2)
      (try clear hk)
      (try clear hi)
      (try clear ho0)
      obtain ⟨Ao58, co58, eo58⟩ := Kd.R_slice HO163.out
      (first | subst eo58 | (injection eo58 with f1_ f2_ f3_; have f4_ := f1_.symm; have f5_ := f3_.symm; clear f1_ f2_ f3_; subst f4_; subst f5_))
      refine hK.out _ _ trivial (fun hHeld => ?_)
      clear hK K
      refine norm_ (a' := ?_) ?_ ?_
      rotate_left
      ·show Act.put _ (some 30) _ = _
       simp only [Act.put, List.setIfInBounds_toArray, List.set_cons_zero, List.set_cons_succ, i64_w, i32_w]
       rfl
      refine one_ (i := 11) (N := some 32) #[true, true, true, true, true, true, true, true, true, true, true, true, false, false, false, false, false, false, false, false, false, false, false, false, false, false, false, false, false, false, false, false] rfl rfl (one_of HT_.out (by kernel_rfl)) (by decide) (fun K hK => ?_)
      refine goes_ Try.func14 (by kernel_rfl) rfl #[.slice Ao58 t161.length co58, .slice Ao50 y137.length co50] (by rfl) rfl rfl (by (try simp only [List.map_toArray, List.map_cons, List.map_nil]); first | done | rfl | (simp only [List.length_drop, List.length_take]; rfl)) ?_
      with_reducible refine (r11_Same.calls k _ _ t161 _ _ y137 true _ ?side1 ?side2 ?side3 ?side4 A18.out).mono ?_
      (case side1 => repeat (first | exact (Kd.R_reads' HO163.out).2.2 | (with_reducible refine Kd.C_alloc ?_ _) | (with_reducible refine Kd.C_drewN ?_ _) | (with_reducible refine Kd.C_drew ?_)))
      (case side2 => exact (Kd.R_reads' HO163.out).2.1)
      (case side3 => repeat (first | exact (Kd.R_reads' HO139.out).2.2 | (with_reducible refine Kd.C_alloc ?_ _) | (with_reducible refine Kd.C_drewN ?_ _) | (with_reducible refine Kd.C_drew ?_)))
      (case side4 => exact (Kd.R_reads' HO139.out).2.1)
      rintro e w' ⟨rfl, ⟨nd, rfl⟩⟩
      refine ⟨_, rfl, ?_⟩
      refine hK.out _ _ trivial (fun hHeld => ?_)
      clear hK K
      refine norm_ (a' := ?_) ?_ ?_
      rotate_left
      ·show Act.put _ (some 32) _ = _
       simp only [Act.put, List.setIfInBounds_toArray, List.set_cons_zero, List.set_cons_succ, i64_w, i32_w]
       rfl
      refine pure_ (i := 12) (N := some 33) (v := ?_) (a' := ?_) #[true, true, true, true, true, true, true, true, true, true, true, true, true, false, false, false, false, false, false, false, false, false, false, false, false, false, false, false, false, false, false, false] rfl rfl (any_of HT_.out (by kernel_rfl)) (fun _ _ _ h => h) (Or.inl ⟨by rfl, ?_⟩) ?_ ?_
      rotate_left
      ·intro w'
       go_simp
       with_reducible rfl
      rotate_left
      ·simp only [Act.put, List.setIfInBounds_toArray, List.set_cons_zero, List.set_cons_succ, i64_w, i32_w]
       rfl
      refine pure_ (i := 13) (N := some 34) (v := ?_) (a' := ?_) #[true, true, true, true, true, true, true, true, true, true, true, true, true, true, false, false, false, false, false, false, false, false, false, false, false, false, false, false, false, false, false, false] rfl rfl (any_of HT_.out (by kernel_rfl)) (fun _ _ _ h => h) (Or.inl ⟨by rfl, ?_⟩) ?_ ?_
      rotate_left
      ·intro w'
       go_simp
       with_reducible rfl
      rotate_left
      ·simp only [Act.put, List.setIfInBounds_toArray, List.set_cons_zero, List.set_cons_succ, i64_w, i32_w]
       rfl
      refine pure_ (i := 14) (N := some 35) (v := ?_) (a' := ?_) #[true, true, true, true, true, true, true, true, true, true, true, true, true, true, true, false, false, false, false, false, false, false, false, false, false, false, false, false, false, false, false, false] rfl rfl (any_of HT_.out (by kernel_rfl)) (fun _ _ _ h => h) (Or.inl ⟨by rfl, ?_⟩) ?_ ?_
      rotate_left
      ·intro w'
       go_simp
       with_reducible rfl
      rotate_left
      ·simp only [Act.put, List.setIfInBounds_toArray, List.set_cons_zero, List.set_cons_succ, i64_w, i32_w]
       rfl
      refine pure_ (i := 15) (N := some 36) (v := ?_) (a' := ?_) #[true, true, true, true, true, true, true, true, true, true, true, true, true, true, true, true, false, false, false, false, false, false, false, false, false, false, false, false, false, false, false, false] rfl rfl (any_of HT_.out (by kernel_rfl)) (fun _ _ _ h => h) (Or.inl ⟨by rfl, ?_⟩) ?_ ?_
      rotate_left
      ·intro w'
       go_simp
       with_reducible rfl
      rotate_left
      ·simp only [Act.put, List.setIfInBounds_toArray, List.set_cons_zero, List.set_cons_succ, i64_w, i32_w]
       rfl
      refine pure_ (i := 17) (N := some 38) (v := ?_) (a' := ?_) #[true, true, true, true, true, true, true, true, true, true, true, true, true, true, true, true, false, true, false, false, false, false, false, false, false, false, false, false, false, false, false, false] rfl rfl (any_of HT_.out (by kernel_rfl)) (fun _ _ _ h => h) (Or.inl ⟨by rfl, ?_⟩) ?_ ?_
      rotate_left
      ·intro w'
       go_simp
       with_reducible rfl
      rotate_left
      ·simp only [Act.put, List.setIfInBounds_toArray, List.set_cons_zero, List.set_cons_succ, i64_w, i32_w]
       rfl
      refine pure_ (i := 18) (N := some 39) (v := ?_) (a' := ?_) #[true, true, true, true, true, true, true, true, true, true, true, true, true, true, true, true, false, true, true, false, false, false, false, false, false, false, false, false, false, false, false, false] rfl rfl (any_of HT_.out (by kernel_rfl)) (fun _ _ _ h => h) (Or.inl ⟨by rfl, ?_⟩) ?_ ?_
      rotate_left
      ·intro w'
       go_simp
       with_reducible rfl
      rotate_left
      ·simp only [Act.put, List.setIfInBounds_toArray, List.set_cons_zero, List.set_cons_succ, i64_w, i32_w]
       rfl
      refine join_ (σ := Value × Value) 12 #[true, true, true, true, true, true, true, true, true, true, true, true, true, true, true, true, true, true, true, true, false, false, false, false, false, false, false, false, false, false, false, false] (fun s_ => [(37, s_.1), (40, s_.2)]) (fun s_ w' => (Kd.R k24 24 w' w.heap.size (fun k_ => some k_ ≠ (.slice Ao50 y137.length co50 : Value).ownBlock ∧ some k_ ≠ (.slice Ao51 y140.length co51 : Value).ownBlock ∧ some k_ ≠ (v144 : Value).ownBlock ∧ some k_ ≠ (.slice Ao49 y146.length co49 : Value).ownBlock ∧ some k_ ≠ (.slice Ao54 t149.length co54 : Value).ownBlock ∧ some k_ ≠ (.slice Ao58 t161.length co58 : Value).ownBlock ∧ some k_ ≠ (s_.1 : Value).ownBlock ∧ some k_ ≠ (s_.2 : Value).ownBlock) (.slice Ao48 y134.length co48) y134) ∧ (Kd.R k24 24 w' w.heap.size (fun k_ => some k_ ≠ (.slice Ao48 y134.length co48 : Value).ownBlock ∧ some k_ ≠ (.slice Ao51 y140.length co51 : Value).ownBlock ∧ some k_ ≠ (v144 : Value).ownBlock ∧ some k_ ≠ (.slice Ao49 y146.length co49 : Value).ownBlock ∧ some k_ ≠ (.slice Ao54 t149.length co54 : Value).ownBlock ∧ some k_ ≠ (.slice Ao58 t161.length co58 : Value).ownBlock ∧ some k_ ≠ (s_.1 : Value).ownBlock ∧ some k_ ≠ (s_.2 : Value).ownBlock) (.slice Ao50 y137.length co50) y137) ∧ (Kd.R k24 24 w' w.heap.size (fun k_ => some k_ ≠ (.slice Ao48 y134.length co48 : Value).ownBlock ∧ some k_ ≠ (.slice Ao50 y137.length co50 : Value).ownBlock ∧ some k_ ≠ (v144 : Value).ownBlock ∧ some k_ ≠ (.slice Ao49 y146.length co49 : Value).ownBlock ∧ some k_ ≠ (.slice Ao54 t149.length co54 : Value).ownBlock ∧ some k_ ≠ (.slice Ao58 t161.length co58 : Value).ownBlock ∧ some k_ ≠ (s_.1 : Value).ownBlock ∧ some k_ ≠ (s_.2 : Value).ownBlock) (.slice Ao51 y140.length co51) y140) ∧ (Kd.R k24 24 w' w.heap.size (fun k_ => some k_ ≠ (.slice Ao48 y134.length co48 : Value).ownBlock ∧ some k_ ≠ (.slice Ao50 y137.length co50 : Value).ownBlock ∧ some k_ ≠ (.slice Ao51 y140.length co51 : Value).ownBlock ∧ some k_ ≠ (.slice Ao49 y146.length co49 : Value).ownBlock ∧ some k_ ≠ (.slice Ao54 t149.length co54 : Value).ownBlock ∧ some k_ ≠ (.slice Ao58 t161.length co58 : Value).ownBlock ∧ some k_ ≠ (s_.1 : Value).ownBlock ∧ some k_ ≠ (s_.2 : Value).ownBlock) v144 y143) ∧ (Kd.R k24 24 w' w.heap.size (fun k_ => some k_ ≠ (.slice Ao48 y134.length co48 : Value).ownBlock ∧ some k_ ≠ (.slice Ao50 y137.length co50 : Value).ownBlock ∧ some k_ ≠ (.slice Ao51 y140.length co51 : Value).ownBlock ∧ some k_ ≠ (v144 : Value).ownBlock ∧ some k_ ≠ (.slice Ao54 t149.length co54 : Value).ownBlock ∧ some k_ ≠ (.slice Ao58 t161.length co58 : Value).ownBlock ∧ some k_ ≠ (s_.1 : Value).ownBlock ∧ some k_ ≠ (s_.2 : Value).ownBlock) (.slice Ao49 y146.length co49) y146) ∧ (Kd.R k24 24 w' w.heap.size (fun k_ => some k_ ≠ (.slice Ao48 y134.length co48 : Value).ownBlock ∧ some k_ ≠ (.slice Ao50 y137.length co50 : Value).ownBlock ∧ some k_ ≠ (.slice Ao51 y140.length co51 : Value).ownBlock ∧ some k_ ≠ (v144 : Value).ownBlock ∧ some k_ ≠ (.slice Ao49 y146.length co49 : Value).ownBlock ∧ some k_ ≠ (.slice Ao58 t161.length co58 : Value).ownBlock ∧ some k_ ≠ (s_.1 : Value).ownBlock ∧ some k_ ≠ (s_.2 : Value).ownBlock) (.slice Ao54 t149.length co54) t149) ∧ (Kd.R k24 24 w' w.heap.size (fun k_ => some k_ ≠ (.slice Ao48 y134.length co48 : Value).ownBlock ∧ some k_ ≠ (.slice Ao50 y137.length co50 : Value).ownBlock ∧ some k_ ≠ (.slice Ao51 y140.length co51 : Value).ownBlock ∧ some k_ ≠ (v144 : Value).ownBlock ∧ some k_ ≠ (.slice Ao49 y146.length co49 : Value).ownBlock ∧ some k_ ≠ (.slice Ao54 t149.length co54 : Value).ownBlock ∧ some k_ ≠ (s_.1 : Value).ownBlock ∧ some k_ ≠ (s_.2 : Value).ownBlock) (.slice Ao58 t161.length co58) t161) ∧ (Kd.R k24 24 w' w.heap.size (fun k_ => some k_ ≠ (.slice Ao48 y134.length co48 : Value).ownBlock ∧ some k_ ≠ (.slice Ao50 y137.length co50 : Value).ownBlock ∧ some k_ ≠ (.slice Ao51 y140.length co51 : Value).ownBlock ∧ some k_ ≠ (v144 : Value).ownBlock ∧ some k_ ≠ (.slice Ao49 y146.length co49 : Value).ownBlock ∧ some k_ ≠ (.slice Ao54 t149.length co54 : Value).ownBlock ∧ some k_ ≠ (.slice Ao58 t161.length co58 : Value).ownBlock ∧ some k_ ≠ (s_.2 : Value).ownBlock) s_.1 t165) ∧ (Kd.R k24 24 w' w.heap.size (fun k_ => some k_ ≠ (.slice Ao48 y134.length co48 : Value).ownBlock ∧ some k_ ≠ (.slice Ao50 y137.length co50 : Value).ownBlock ∧ some k_ ≠ (.slice Ao51 y140.length co51 : Value).ownBlock ∧ some k_ ≠ (v144 : Value).ownBlock ∧ some k_ ≠ (.slice Ao49 y146.length co49 : Value).ownBlock ∧ some k_ ≠ (.slice Ao54 t149.length co54 : Value).ownBlock ∧ some k_ ≠ (.slice Ao58 t161.length co58 : Value).ownBlock ∧ some k_ ≠ (s_.1 : Value).ownBlock) s_.2 y168) ∧ (Below w.heap.size w w')) ?_ ?_
      rotate_left
      ·intro hCont
       refine two_ (i := 16) (j := 19) (Ni := some 37) (Nj := some 40) #[true, true, true, true, true, true, true, true, true, true, true, true, true, true, true, true, true, true, true, false, false, false, false, false, false, false, false, false, false, false, false, false] #[true, true, true, true, true, true, true, true, true, true, true, true, true, true, true, true, false, true, true, true, false, false, false, false, false, false, false, false, false, false, false, false] rfl rfl rfl rfl (two_of HT_.out (by kernel_rfl)) (by decide) (by decide) (fun K hK => ?_) (fun K hK => ?_)
       ·skip
        refine goes_ Try.func19 (by kernel_rfl) rfl #[.slice Ao50 y137.length co50, .slice Ao51 y140.length co51] (by rfl) rfl rfl (by (try simp only [List.map_toArray, List.map_cons, List.map_nil]); first | done | rfl | (simp only [List.length_drop, List.length_take]; rfl)) ?_
        with_reducible refine (span_Meet.calls _ _ y137 _ _ y140 t165 _ ?side1 ?side2 ?side3 ?side4 A20.out).mono ?_
        (case side1 => repeat (first | exact (Kd.R_reads' HO139.out).2.2 | (with_reducible refine Kd.C_alloc ?_ _) | (with_reducible refine Kd.C_drewN ?_ _) | (with_reducible refine Kd.C_drew ?_)))
        (case side2 => exact (Kd.R_reads' HO139.out).2.1)
        (case side3 => repeat (first | exact (Kd.R_reads' HO142.out).2.2 | (with_reducible refine Kd.C_alloc ?_ _) | (with_reducible refine Kd.C_drewN ?_ _) | (with_reducible refine Kd.C_drew ?_)))
        (case side4 => exact (Kd.R_reads' HO142.out).2.1)
        rintro e w59 ⟨v166, rfl, ho0, hb⟩
        refine ⟨_, rfl, ?_⟩
        have n0_ := Aside0.mk (Kd.R_elder' (rZ HO136.out) (Kd.R_base ho0) hb)
        have n1_ := Aside0.mk (Kd.R_elder' (rZ HO139.out) (Kd.R_base ho0) hb)
        have n2_ := Aside0.mk (Kd.R_elder' (rZ HO142.out) (Kd.R_base ho0) hb)
        have n3_ := Aside0.mk (Kd.R_elder' (rZ HO145.out) (Kd.R_base ho0) hb)
        have n4_ := Aside0.mk (Kd.R_elder' (rZ HO148.out) (Kd.R_base ho0) hb)
        have n5_ := Aside0.mk (Kd.R_elder' (rZ HO151.out) (Kd.R_base ho0) hb)
        have n6_ := Aside0.mk (Kd.R_elder' (rZ HO163.out) (Kd.R_base ho0) hb)
        have n7_ := Aside0.mk (Kd.R_lower (Kd.R_new' (Kd.R_new' (Kd.R_new' (Kd.R_new' (Kd.R_new' (Kd.R_new' (Kd.R_new' ho0 (Kd.R_lt (rZ HO136.out))) (Kd.R_lt (rZ HO139.out))) (Kd.R_lt (rZ HO142.out))) (Kd.R_lt (rZ HO145.out))) (Kd.R_lt (rZ HO148.out))) (Kd.R_lt (rZ HO151.out))) (Kd.R_lt (rZ HO163.out))) (below_size (bZ HB.out)))
        have n8_ := Aside0.mk (Kd.C_below (by repeat (first | (with_reducible exact HR156.out) | (with_reducible refine Kd.C_alloc ?_ _) | (with_reducible refine Kd.C_drewN ?_ _) | (with_reducible refine Kd.C_drew ?_) | exact HR156.out)) hb)
        have n9_ := Aside0.mk (Kd.C_below (by repeat (first | (with_reducible exact HR160.out) | (with_reducible refine Kd.C_alloc ?_ _) | (with_reducible refine Kd.C_drewN ?_ _) | (with_reducible refine Kd.C_drew ?_) | exact HR160.out)) hb)
        have n10_ := Aside0.mk (below_step (bZ HB.out) hb)
        clear HO136
        clear HO139
        clear HO142
        clear HO145
        clear HO148
        clear HO151
        clear HO163
        clear HR156
        clear HR160
        clear HB
        have HO136 := n0_
        have HO139 := n1_
        have HO142 := n2_
        have HO145 := n3_
        have HO148 := n4_
        have HO151 := n5_
        have HO163 := n6_
        have HO167 := n7_
        have HR156 := n8_
        have HR160 := n9_
        have HB := n10_
        clear n0_ n1_ n2_ n3_ n4_ n5_ n6_ n7_ n8_ n9_ n10_
        (try clear hb)
        (try clear hb2)
        (try clear hk)
        (try clear hi)
        (try clear ho0)
        refine hK.out _ _ trivial (fun hHeld => ?_)
        clear hK K
        refine norm_ (a' := ?_) ?_ ?_
        rotate_left
        ·show Act.put _ (some 37) _ = _
         simp only [Act.put, List.setIfInBounds_toArray, List.set_cons_zero, List.set_cons_succ, i64_w, i32_w]
         rfl
        refine one_ (i := 19) (N := some 40) #[true, true, true, true, true, true, true, true, true, true, true, true, true, true, true, true, true, true, true, true, false, false, false, false, false, false, false, false, false, false, false, false] rfl rfl (one_of HT_.out (by kernel_rfl)) (by decide) (fun K hK => ?_)
        refine Kd.R_lit_step k24 _ 24 ?hg (N := 40) ?hd (xs := ([(⟨2, 3⟩ : S24), (⟨5, 6⟩ : S24)] : List (S24))) (inner := [.int .i64 2, .int .i64 3, .int .i64 5, .int .i64 6]) (ok := fun _ => True) (okp := fun _ => True) ?hr ?hp (fun _ hk => hk) trivial (Below.refl _ _) (Nat.le_refl _) (by simp) ?_; (case hd => rfl); (case hg => rfl); (case hr => first | (go_simp; done) | (go_simp; rfl)); (case hp => exact (Reps.c2 (show Kd.M k24 _ _ _ (⟨2, 3⟩ : S24) [.int .i64 2, .int .i64 3] from (k24_mkM _ _ _ (⟨2, 3⟩ : S24) )) (Reps.c2 (show Kd.M k24 _ _ _ (⟨5, 6⟩ : S24) [.int .i64 5, .int .i64 6] from (k24_mkM _ _ _ (⟨5, 6⟩ : S24) )) (Reps.none _ _))))
        intro v169 w60 ho61 hb hg_ hnew_
        clear hg_ hnew_
        (first | rw [← Ny168.out] at ho61 | (simp only [Int.reduceToNat] at ho61; rw [← Ny168.out] at ho61))
        have n0_ := Aside0.mk (Kd.R_elder' (rZ HO136.out) (Kd.R_base ho61) hb)
        have n1_ := Aside0.mk (Kd.R_elder' (rZ HO139.out) (Kd.R_base ho61) hb)
        have n2_ := Aside0.mk (Kd.R_elder' (rZ HO142.out) (Kd.R_base ho61) hb)
        have n3_ := Aside0.mk (Kd.R_elder' (rZ HO145.out) (Kd.R_base ho61) hb)
        have n4_ := Aside0.mk (Kd.R_elder' (rZ HO148.out) (Kd.R_base ho61) hb)
        have n5_ := Aside0.mk (Kd.R_elder' (rZ HO151.out) (Kd.R_base ho61) hb)
        have n6_ := Aside0.mk (Kd.R_elder' (rZ HO163.out) (Kd.R_base ho61) hb)
        have n7_ := Aside0.mk (Kd.R_elder' (rZ HO167.out) (Kd.R_base ho61) hb)
        have n8_ := Aside0.mk (Kd.R_lower (Kd.R_new' (Kd.R_new' (Kd.R_new' (Kd.R_new' (Kd.R_new' (Kd.R_new' (Kd.R_new' (Kd.R_new' ho61 (Kd.R_lt (rZ HO136.out))) (Kd.R_lt (rZ HO139.out))) (Kd.R_lt (rZ HO142.out))) (Kd.R_lt (rZ HO145.out))) (Kd.R_lt (rZ HO148.out))) (Kd.R_lt (rZ HO151.out))) (Kd.R_lt (rZ HO163.out))) (Kd.R_lt (rZ HO167.out))) (below_size (bZ HB.out)))
        have n9_ := Aside0.mk (Kd.C_below (by repeat (first | (with_reducible exact HR156.out) | (with_reducible refine Kd.C_alloc ?_ _) | (with_reducible refine Kd.C_drewN ?_ _) | (with_reducible refine Kd.C_drew ?_) | exact HR156.out)) hb)
        have n10_ := Aside0.mk (Kd.C_below (by repeat (first | (with_reducible exact HR160.out) | (with_reducible refine Kd.C_alloc ?_ _) | (with_reducible refine Kd.C_drewN ?_ _) | (with_reducible refine Kd.C_drew ?_) | exact HR160.out)) hb)
        have n11_ := Aside0.mk (below_step (bZ HB.out) hb)
        clear HO136
        clear HO139
        clear HO142
        clear HO145
        clear HO148
        clear HO151
        clear HO163
        clear HO167
        clear HR156
        clear HR160
        clear HB
        have HO136 := n0_
        have HO139 := n1_
        have HO142 := n2_
        have HO145 := n3_
        have HO148 := n4_
        have HO151 := n5_
        have HO163 := n6_
        have HO167 := n7_
        have HO170 := n8_
        have HR156 := n9_
        have HR160 := n10_
        have HB := n11_
        clear n0_ n1_ n2_ n3_ n4_ n5_ n6_ n7_ n8_ n9_ n10_ n11_
        clear hb ho61
        refine hK.out _ _ trivial (fun hHeld => ?_)
        clear hK K
        refine norm_ (a' := ?_) ?_ ?_
        rotate_left
        ·show Act.put _ (some 40) _ = _
         simp only [Act.put, List.setIfInBounds_toArray, List.set_cons_zero, List.set_cons_succ, i64_w, i32_w]
         rfl
        exact norm_ (by simp only [putAll, Act.put, List.setIfInBounds_toArray, List.set_cons_zero, List.set_cons_succ]) (hCont (v166, v169) _ ⟨(by (with_reducible repeat (first | apply Kd.R_alloc | apply Kd.R_drewN | apply Kd.R_drew)); exact Kd.R_mono HO136.out (fun _ hk => ⟨hk.1.1.1.1.1.1.1.2, ⟨hk.1.1.1.1.1.1.2, ⟨hk.1.1.1.1.1.2, ⟨hk.1.1.1.1.2, ⟨hk.1.1.1.2, ⟨hk.1.1.2, ⟨hk.1.2, hk.2⟩⟩⟩⟩⟩⟩⟩)), (by (with_reducible repeat (first | apply Kd.R_alloc | apply Kd.R_drewN | apply Kd.R_drew)); exact Kd.R_mono HO139.out (fun _ hk => ⟨hk.1.1.1.1.1.1.1.2, ⟨hk.1.1.1.1.1.1.2, ⟨hk.1.1.1.1.1.2, ⟨hk.1.1.1.1.2, ⟨hk.1.1.1.2, ⟨hk.1.1.2, ⟨hk.1.2, hk.2⟩⟩⟩⟩⟩⟩⟩)), (by (with_reducible repeat (first | apply Kd.R_alloc | apply Kd.R_drewN | apply Kd.R_drew)); exact Kd.R_mono HO142.out (fun _ hk => ⟨hk.1.1.1.1.1.1.1.2, ⟨hk.1.1.1.1.1.1.2, ⟨hk.1.1.1.1.1.2, ⟨hk.1.1.1.1.2, ⟨hk.1.1.1.2, ⟨hk.1.1.2, ⟨hk.1.2, hk.2⟩⟩⟩⟩⟩⟩⟩)), (by (with_reducible repeat (first | apply Kd.R_alloc | apply Kd.R_drewN | apply Kd.R_drew)); exact Kd.R_mono HO145.out (fun _ hk => ⟨hk.1.1.1.1.1.1.1.2, ⟨hk.1.1.1.1.1.1.2, ⟨hk.1.1.1.1.1.2, ⟨hk.1.1.1.1.2, ⟨hk.1.1.1.2, ⟨hk.1.1.2, ⟨hk.1.2, hk.2⟩⟩⟩⟩⟩⟩⟩)), (by (with_reducible repeat (first | apply Kd.R_alloc | apply Kd.R_drewN | apply Kd.R_drew)); exact Kd.R_mono HO148.out (fun _ hk => ⟨hk.1.1.1.1.1.1.1.2, ⟨hk.1.1.1.1.1.1.2, ⟨hk.1.1.1.1.1.2, ⟨hk.1.1.1.1.2, ⟨hk.1.1.1.2, ⟨hk.1.1.2, ⟨hk.1.2, hk.2⟩⟩⟩⟩⟩⟩⟩)), (by (with_reducible repeat (first | apply Kd.R_alloc | apply Kd.R_drewN | apply Kd.R_drew)); exact Kd.R_mono HO151.out (fun _ hk => ⟨hk.1.1.1.1.1.1.1.2, ⟨hk.1.1.1.1.1.1.2, ⟨hk.1.1.1.1.1.2, ⟨hk.1.1.1.1.2, ⟨hk.1.1.1.2, ⟨hk.1.1.2, ⟨hk.1.2, hk.2⟩⟩⟩⟩⟩⟩⟩)), (by (with_reducible repeat (first | apply Kd.R_alloc | apply Kd.R_drewN | apply Kd.R_drew)); exact Kd.R_mono HO163.out (fun _ hk => ⟨hk.1.1.1.1.1.1.1.2, ⟨hk.1.1.1.1.1.1.2, ⟨hk.1.1.1.1.1.2, ⟨hk.1.1.1.1.2, ⟨hk.1.1.1.2, ⟨hk.1.1.2, ⟨hk.1.2, hk.2⟩⟩⟩⟩⟩⟩⟩)), (by (with_reducible repeat (first | apply Kd.R_alloc | apply Kd.R_drewN | apply Kd.R_drew)); exact Kd.R_mono HO167.out (fun _ hk => ⟨hk.1.1.1.1.1.1.1.2, ⟨hk.1.1.1.1.1.1.2, ⟨hk.1.1.1.1.1.2, ⟨hk.1.1.1.1.2, ⟨hk.1.1.1.2, ⟨hk.1.1.2, ⟨hk.1.2, hk.2⟩⟩⟩⟩⟩⟩⟩)), (by (with_reducible repeat (first | apply Kd.R_alloc | apply Kd.R_drewN | apply Kd.R_drew)); exact Kd.R_mono HO170.out (fun _ hk => ⟨hk.1.1.1.1.1.1.1.2, ⟨hk.1.1.1.1.1.1.2, ⟨hk.1.1.1.1.1.2, ⟨hk.1.1.1.1.2, ⟨hk.1.1.1.2, ⟨hk.1.1.2, ⟨hk.1.2, hk.2⟩⟩⟩⟩⟩⟩⟩)), (bZ HB.out)⟩)
       ·skip
        refine Kd.R_lit_step k24 _ 24 ?hg (N := 40) ?hd (xs := ([(⟨2, 3⟩ : S24), (⟨5, 6⟩ : S24)] : List (S24))) (inner := [.int .i64 2, .int .i64 3, .int .i64 5, .int .i64 6]) (ok := fun _ => True) (okp := fun _ => True) ?hr ?hp (fun _ hk => hk) trivial (Below.refl _ _) (Nat.le_refl _) (by simp) ?_; (case hd => rfl); (case hg => rfl); (case hr => first | (go_simp; done) | (go_simp; rfl)); (case hp => exact (Reps.c2 (show Kd.M k24 _ _ _ (⟨2, 3⟩ : S24) [.int .i64 2, .int .i64 3] from (k24_mkM _ _ _ (⟨2, 3⟩ : S24) )) (Reps.c2 (show Kd.M k24 _ _ _ (⟨5, 6⟩ : S24) [.int .i64 5, .int .i64 6] from (k24_mkM _ _ _ (⟨5, 6⟩ : S24) )) (Reps.none _ _))))
        intro v169 w59 ho60 hb hg_ hnew_
        clear hg_ hnew_
        (first | rw [← Ny168.out] at ho60 | (simp only [Int.reduceToNat] at ho60; rw [← Ny168.out] at ho60))
        have n0_ := Aside0.mk (Kd.R_elder' (rZ HO136.out) (Kd.R_base ho60) hb)
        have n1_ := Aside0.mk (Kd.R_elder' (rZ HO139.out) (Kd.R_base ho60) hb)
        have n2_ := Aside0.mk (Kd.R_elder' (rZ HO142.out) (Kd.R_base ho60) hb)
        have n3_ := Aside0.mk (Kd.R_elder' (rZ HO145.out) (Kd.R_base ho60) hb)
        have n4_ := Aside0.mk (Kd.R_elder' (rZ HO148.out) (Kd.R_base ho60) hb)
        have n5_ := Aside0.mk (Kd.R_elder' (rZ HO151.out) (Kd.R_base ho60) hb)
        have n6_ := Aside0.mk (Kd.R_elder' (rZ HO163.out) (Kd.R_base ho60) hb)
        have n7_ := Aside0.mk (Kd.R_lower (Kd.R_new' (Kd.R_new' (Kd.R_new' (Kd.R_new' (Kd.R_new' (Kd.R_new' (Kd.R_new' ho60 (Kd.R_lt (rZ HO136.out))) (Kd.R_lt (rZ HO139.out))) (Kd.R_lt (rZ HO142.out))) (Kd.R_lt (rZ HO145.out))) (Kd.R_lt (rZ HO148.out))) (Kd.R_lt (rZ HO151.out))) (Kd.R_lt (rZ HO163.out))) (below_size (bZ HB.out)))
        have n8_ := Aside0.mk (Kd.C_below (by repeat (first | (with_reducible exact HR156.out) | (with_reducible refine Kd.C_alloc ?_ _) | (with_reducible refine Kd.C_drewN ?_ _) | (with_reducible refine Kd.C_drew ?_) | exact HR156.out)) hb)
        have n9_ := Aside0.mk (Kd.C_below (by repeat (first | (with_reducible exact HR160.out) | (with_reducible refine Kd.C_alloc ?_ _) | (with_reducible refine Kd.C_drewN ?_ _) | (with_reducible refine Kd.C_drew ?_) | exact HR160.out)) hb)
        have n10_ := Aside0.mk (below_step (bZ HB.out) hb)
        clear HO136
        clear HO139
        clear HO142
        clear HO145
        clear HO148
        clear HO151
        clear HO163
        clear HR156
        clear HR160
        clear HB
        have HO136 := n0_
        have HO139 := n1_
        have HO142 := n2_
        have HO145 := n3_
        have HO148 := n4_
        have HO151 := n5_
        have HO163 := n6_
        have HO170 := n7_
        have HR156 := n8_
        have HR160 := n9_
        have HB := n10_
        clear n0_ n1_ n2_ n3_ n4_ n5_ n6_ n7_ n8_ n9_ n10_
        clear hb ho60
        refine hK.out _ _ trivial (fun hHeld => ?_)
        clear hK K
        refine norm_ (a' := ?_) ?_ ?_
        rotate_left
        ·show Act.put _ (some 40) _ = _
         simp only [Act.put, List.setIfInBounds_toArray, List.set_cons_zero, List.set_cons_succ, i64_w, i32_w]
         rfl
        refine one_ (i := 16) (N := some 37) #[true, true, true, true, true, true, true, true, true, true, true, true, true, true, true, true, true, true, true, true, false, false, false, false, false, false, false, false, false, false, false, false] rfl rfl (one_of HT_.out (by kernel_rfl)) (by decide) (fun K hK => ?_)
        refine goes_ Try.func19 (by kernel_rfl) rfl #[.slice Ao50 y137.length co50, .slice Ao51 y140.length co51] (by rfl) rfl rfl (by (try simp only [List.map_toArray, List.map_cons, List.map_nil]); first | done | rfl | (simp only [List.length_drop, List.length_take]; rfl)) ?_
        with_reducible refine (span_Meet.calls _ _ y137 _ _ y140 t165 _ ?side1 ?side2 ?side3 ?side4 A20.out).mono ?_
        (case side1 => repeat (first | exact (Kd.R_reads' HO139.out).2.2 | (with_reducible refine Kd.C_alloc ?_ _) | (with_reducible refine Kd.C_drewN ?_ _) | (with_reducible refine Kd.C_drew ?_)))
        (case side2 => exact (Kd.R_reads' HO139.out).2.1)
        (case side3 => repeat (first | exact (Kd.R_reads' HO142.out).2.2 | (with_reducible refine Kd.C_alloc ?_ _) | (with_reducible refine Kd.C_drewN ?_ _) | (with_reducible refine Kd.C_drew ?_)))
        (case side4 => exact (Kd.R_reads' HO142.out).2.1)
        rintro e w61 ⟨v166, rfl, ho0, hb⟩
        refine ⟨_, rfl, ?_⟩
        have n0_ := Aside0.mk (Kd.R_elder' (rZ HO136.out) (Kd.R_base ho0) hb)
        have n1_ := Aside0.mk (Kd.R_elder' (rZ HO139.out) (Kd.R_base ho0) hb)
        have n2_ := Aside0.mk (Kd.R_elder' (rZ HO142.out) (Kd.R_base ho0) hb)
        have n3_ := Aside0.mk (Kd.R_elder' (rZ HO145.out) (Kd.R_base ho0) hb)
        have n4_ := Aside0.mk (Kd.R_elder' (rZ HO148.out) (Kd.R_base ho0) hb)
        have n5_ := Aside0.mk (Kd.R_elder' (rZ HO151.out) (Kd.R_base ho0) hb)
        have n6_ := Aside0.mk (Kd.R_elder' (rZ HO163.out) (Kd.R_base ho0) hb)
        have n7_ := Aside0.mk (Kd.R_elder' (rZ HO170.out) (Kd.R_base ho0) hb)
        have n8_ := Aside0.mk (Kd.R_lower (Kd.R_new' (Kd.R_new' (Kd.R_new' (Kd.R_new' (Kd.R_new' (Kd.R_new' (Kd.R_new' (Kd.R_new' ho0 (Kd.R_lt (rZ HO136.out))) (Kd.R_lt (rZ HO139.out))) (Kd.R_lt (rZ HO142.out))) (Kd.R_lt (rZ HO145.out))) (Kd.R_lt (rZ HO148.out))) (Kd.R_lt (rZ HO151.out))) (Kd.R_lt (rZ HO163.out))) (Kd.R_lt (rZ HO170.out))) (below_size (bZ HB.out)))
        have n9_ := Aside0.mk (Kd.C_below (by repeat (first | (with_reducible exact HR156.out) | (with_reducible refine Kd.C_alloc ?_ _) | (with_reducible refine Kd.C_drewN ?_ _) | (with_reducible refine Kd.C_drew ?_) | exact HR156.out)) hb)
        have n10_ := Aside0.mk (Kd.C_below (by repeat (first | (with_reducible exact HR160.out) | (with_reducible refine Kd.C_alloc ?_ _) | (with_reducible refine Kd.C_drewN ?_ _) | (with_reducible refine Kd.C_drew ?_) | exact HR160.out)) hb)
        have n11_ := Aside0.mk (below_step (bZ HB.out) hb)
        clear HO136
        clear HO139
        clear HO142
        clear HO145
        clear HO148
        clear HO151
        clear HO163
        clear HO170
        clear HR156
        clear HR160
        clear HB
        have HO136 := n0_
        have HO139 := n1_
        have HO142 := n2_
        have HO145 := n3_
        have HO148 := n4_
        have HO151 := n5_
        have HO163 := n6_
        have HO170 := n7_
        have HO167 := n8_
        have HR156 := n9_
        have HR160 := n10_
        have HB := n11_
        clear n0_ n1_ n2_ n3_ n4_ n5_ n6_ n7_ n8_ n9_ n10_ n11_
        (try clear hb)
        (try clear hb2)
        (try clear hk)
        (try clear hi)
        (try clear ho0)
        refine hK.out _ _ trivial (fun hHeld => ?_)
        clear hK K
        refine norm_ (a' := ?_) ?_ ?_
        rotate_left
        ·show Act.put _ (some 37) _ = _
         simp only [Act.put, List.setIfInBounds_toArray, List.set_cons_zero, List.set_cons_succ, i64_w, i32_w]
         rfl
        exact norm_ (by simp only [putAll, Act.put, List.setIfInBounds_toArray, List.set_cons_zero, List.set_cons_succ]) (hCont (v166, v169) _ ⟨(by (with_reducible repeat (first | apply Kd.R_alloc | apply Kd.R_drewN | apply Kd.R_drew)); exact Kd.R_mono HO136.out (fun _ hk => ⟨hk.1.1.1.1.1.1.1.2, ⟨hk.1.1.1.1.1.1.2, ⟨hk.1.1.1.1.1.2, ⟨hk.1.1.1.1.2, ⟨hk.1.1.1.2, ⟨hk.1.1.2, ⟨hk.2, hk.1.2⟩⟩⟩⟩⟩⟩⟩)), (by (with_reducible repeat (first | apply Kd.R_alloc | apply Kd.R_drewN | apply Kd.R_drew)); exact Kd.R_mono HO139.out (fun _ hk => ⟨hk.1.1.1.1.1.1.1.2, ⟨hk.1.1.1.1.1.1.2, ⟨hk.1.1.1.1.1.2, ⟨hk.1.1.1.1.2, ⟨hk.1.1.1.2, ⟨hk.1.1.2, ⟨hk.2, hk.1.2⟩⟩⟩⟩⟩⟩⟩)), (by (with_reducible repeat (first | apply Kd.R_alloc | apply Kd.R_drewN | apply Kd.R_drew)); exact Kd.R_mono HO142.out (fun _ hk => ⟨hk.1.1.1.1.1.1.1.2, ⟨hk.1.1.1.1.1.1.2, ⟨hk.1.1.1.1.1.2, ⟨hk.1.1.1.1.2, ⟨hk.1.1.1.2, ⟨hk.1.1.2, ⟨hk.2, hk.1.2⟩⟩⟩⟩⟩⟩⟩)), (by (with_reducible repeat (first | apply Kd.R_alloc | apply Kd.R_drewN | apply Kd.R_drew)); exact Kd.R_mono HO145.out (fun _ hk => ⟨hk.1.1.1.1.1.1.1.2, ⟨hk.1.1.1.1.1.1.2, ⟨hk.1.1.1.1.1.2, ⟨hk.1.1.1.1.2, ⟨hk.1.1.1.2, ⟨hk.1.1.2, ⟨hk.2, hk.1.2⟩⟩⟩⟩⟩⟩⟩)), (by (with_reducible repeat (first | apply Kd.R_alloc | apply Kd.R_drewN | apply Kd.R_drew)); exact Kd.R_mono HO148.out (fun _ hk => ⟨hk.1.1.1.1.1.1.1.2, ⟨hk.1.1.1.1.1.1.2, ⟨hk.1.1.1.1.1.2, ⟨hk.1.1.1.1.2, ⟨hk.1.1.1.2, ⟨hk.1.1.2, ⟨hk.2, hk.1.2⟩⟩⟩⟩⟩⟩⟩)), (by (with_reducible repeat (first | apply Kd.R_alloc | apply Kd.R_drewN | apply Kd.R_drew)); exact Kd.R_mono HO151.out (fun _ hk => ⟨hk.1.1.1.1.1.1.1.2, ⟨hk.1.1.1.1.1.1.2, ⟨hk.1.1.1.1.1.2, ⟨hk.1.1.1.1.2, ⟨hk.1.1.1.2, ⟨hk.1.1.2, ⟨hk.2, hk.1.2⟩⟩⟩⟩⟩⟩⟩)), (by (with_reducible repeat (first | apply Kd.R_alloc | apply Kd.R_drewN | apply Kd.R_drew)); exact Kd.R_mono HO163.out (fun _ hk => ⟨hk.1.1.1.1.1.1.1.2, ⟨hk.1.1.1.1.1.1.2, ⟨hk.1.1.1.1.1.2, ⟨hk.1.1.1.1.2, ⟨hk.1.1.1.2, ⟨hk.1.1.2, ⟨hk.2, hk.1.2⟩⟩⟩⟩⟩⟩⟩)), (by (with_reducible repeat (first | apply Kd.R_alloc | apply Kd.R_drewN | apply Kd.R_drew)); exact Kd.R_mono HO167.out (fun _ hk => ⟨hk.1.1.1.1.1.1.1.2, ⟨hk.1.1.1.1.1.1.2, ⟨hk.1.1.1.1.1.2, ⟨hk.1.1.1.1.2, ⟨hk.1.1.1.2, ⟨hk.1.1.2, ⟨hk.1.2, hk.2⟩⟩⟩⟩⟩⟩⟩)), (by (with_reducible repeat (first | apply Kd.R_alloc | apply Kd.R_drewN | apply Kd.R_drew)); exact Kd.R_mono HO170.out (fun _ hk => ⟨hk.1.1.1.1.1.1.1.2, ⟨hk.1.1.1.1.1.1.2, ⟨hk.1.1.1.1.1.2, ⟨hk.1.1.1.1.2, ⟨hk.1.1.1.2, ⟨hk.1.1.2, ⟨hk.1.2, hk.2⟩⟩⟩⟩⟩⟩⟩)), (bZ HB.out)⟩)
      rintro ⟨v166, v169⟩ w62 ⟨h0_, h1_, h2_, h3_, h4_, h5_, h6_, h7_, h8_, h9_⟩
      have n0_ : Aside0 (Kd.R k24 24 w62 w.heap.size (fun k_ => some k_ ≠ (.slice Ao50 y137.length co50 : Value).ownBlock ∧ some k_ ≠ (.slice Ao51 y140.length co51 : Value).ownBlock ∧ some k_ ≠ (v144 : Value).ownBlock ∧ some k_ ≠ (.slice Ao49 y146.length co49 : Value).ownBlock ∧ some k_ ≠ (.slice Ao54 t149.length co54 : Value).ownBlock ∧ some k_ ≠ (.slice Ao58 t161.length co58 : Value).ownBlock ∧ some k_ ≠ (v166 : Value).ownBlock ∧ some k_ ≠ (v169 : Value).ownBlock) (.slice Ao48 y134.length co48) y134) := ⟨h0_⟩
      have n1_ : Aside0 (Kd.R k24 24 w62 w.heap.size (fun k_ => some k_ ≠ (.slice Ao48 y134.length co48 : Value).ownBlock ∧ some k_ ≠ (.slice Ao51 y140.length co51 : Value).ownBlock ∧ some k_ ≠ (v144 : Value).ownBlock ∧ some k_ ≠ (.slice Ao49 y146.length co49 : Value).ownBlock ∧ some k_ ≠ (.slice Ao54 t149.length co54 : Value).ownBlock ∧ some k_ ≠ (.slice Ao58 t161.length co58 : Value).ownBlock ∧ some k_ ≠ (v166 : Value).ownBlock ∧ some k_ ≠ (v169 : Value).ownBlock) (.slice Ao50 y137.length co50) y137) := ⟨h1_⟩
      have n2_ : Aside0 (Kd.R k24 24 w62 w.heap.size (fun k_ => some k_ ≠ (.slice Ao48 y134.length co48 : Value).ownBlock ∧ some k_ ≠ (.slice Ao50 y137.length co50 : Value).ownBlock ∧ some k_ ≠ (v144 : Value).ownBlock ∧ some k_ ≠ (.slice Ao49 y146.length co49 : Value).ownBlock ∧ some k_ ≠ (.slice Ao54 t149.length co54 : Value).ownBlock ∧ some k_ ≠ (.slice Ao58 t161.length co58 : Value).ownBlock ∧ some k_ ≠ (v166 : Value).ownBlock ∧ some k_ ≠ (v169 : Value).ownBlock) (.slice Ao51 y140.length co51) y140) := ⟨h2_⟩
      have n3_ : Aside0 (Kd.R k24 24 w62 w.heap.size (fun k_ => some k_ ≠ (.slice Ao48 y134.length co48 : Value).ownBlock ∧ some k_ ≠ (.slice Ao50 y137.length co50 : Value).ownBlock ∧ some k_ ≠ (.slice Ao51 y140.length co51 : Value).ownBlock ∧ some k_ ≠ (.slice Ao49 y146.length co49 : Value).ownBlock ∧ some k_ ≠ (.slice Ao54 t149.length co54 : Value).ownBlock ∧ some k_ ≠ (.slice Ao58 t161.length co58 : Value).ownBlock ∧ some k_ ≠ (v166 : Value).ownBlock ∧ some k_ ≠ (v169 : Value).ownBlock) v144 y143) := ⟨h3_⟩
      have n4_ : Aside0 (Kd.R k24 24 w62 w.heap.size (fun k_ => some k_ ≠ (.slice Ao48 y134.length co48 : Value).ownBlock ∧ some k_ ≠ (.slice Ao50 y137.length co50 : Value).ownBlock ∧ some k_ ≠ (.slice Ao51 y140.length co51 : Value).ownBlock ∧ some k_ ≠ (v144 : Value).ownBlock ∧ some k_ ≠ (.slice Ao54 t149.length co54 : Value).ownBlock ∧ some k_ ≠ (.slice Ao58 t161.length co58 : Value).ownBlock ∧ some k_ ≠ (v166 : Value).ownBlock ∧ some k_ ≠ (v169 : Value).ownBlock) (.slice Ao49 y146.length co49) y146) := ⟨h4_⟩
      have n5_ : Aside0 (Kd.R k24 24 w62 w.heap.size (fun k_ => some k_ ≠ (.slice Ao48 y134.length co48 : Value).ownBlock ∧ some k_ ≠ (.slice Ao50 y137.length co50 : Value).ownBlock ∧ some k_ ≠ (.slice Ao51 y140.length co51 : Value).ownBlock ∧ some k_ ≠ (v144 : Value).ownBlock ∧ some k_ ≠ (.slice Ao49 y146.length co49 : Value).ownBlock ∧ some k_ ≠ (.slice Ao58 t161.length co58 : Value).ownBlock ∧ some k_ ≠ (v166 : Value).ownBlock ∧ some k_ ≠ (v169 : Value).ownBlock) (.slice Ao54 t149.length co54) t149) := ⟨h5_⟩
      have n6_ : Aside0 (Kd.R k24 24 w62 w.heap.size (fun k_ => some k_ ≠ (.slice Ao48 y134.length co48 : Value).ownBlock ∧ some k_ ≠ (.slice Ao50 y137.length co50 : Value).ownBlock ∧ some k_ ≠ (.slice Ao51 y140.length co51 : Value).ownBlock ∧ some k_ ≠ (v144 : Value).ownBlock ∧ some k_ ≠ (.slice Ao49 y146.length co49 : Value).ownBlock ∧ some k_ ≠ (.slice Ao54 t149.length co54 : Value).ownBlock ∧ some k_ ≠ (v166 : Value).ownBlock ∧ some k_ ≠ (v169 : Value).ownBlock) (.slice Ao58 t161.length co58) t161) := ⟨h6_⟩
      have n7_ : Aside0 (Kd.R k24 24 w62 w.heap.size (fun k_ => some k_ ≠ (.slice Ao48 y134.length co48 : Value).ownBlock ∧ some k_ ≠ (.slice Ao50 y137.length co50 : Value).ownBlock ∧ some k_ ≠ (.slice Ao51 y140.length co51 : Value).ownBlock ∧ some k_ ≠ (v144 : Value).ownBlock ∧ some k_ ≠ (.slice Ao49 y146.length co49 : Value).ownBlock ∧ some k_ ≠ (.slice Ao54 t149.length co54 : Value).ownBlock ∧ some k_ ≠ (.slice Ao58 t161.length co58 : Value).ownBlock ∧ some k_ ≠ (v169 : Value).ownBlock) v166 t165) := ⟨h7_⟩
      have n8_ : Aside0 (Kd.R k24 24 w62 w.heap.size (fun k_ => some k_ ≠ (.slice Ao48 y134.length co48 : Value).ownBlock ∧ some k_ ≠ (.slice Ao50 y137.length co50 : Value).ownBlock ∧ some k_ ≠ (.slice Ao51 y140.length co51 : Value).ownBlock ∧ some k_ ≠ (v144 : Value).ownBlock ∧ some k_ ≠ (.slice Ao49 y146.length co49 : Value).ownBlock ∧ some k_ ≠ (.slice Ao54 t149.length co54 : Value).ownBlock ∧ some k_ ≠ (.slice Ao58 t161.length co58 : Value).ownBlock ∧ some k_ ≠ (v166 : Value).ownBlock) v169 y168) := ⟨h8_⟩
      have n9_ : Aside0 (Below w.heap.size w w62) := ⟨h9_⟩
      clear HO136
      clear HO139
      clear HO142
      clear HO145
      clear HO148
      clear HB
      clear h0_ h1_ h2_ h3_ h4_ h5_ h6_ h7_ h8_ h9_
      have HO136 := n0_
      have HO139 := n1_
      have HO142 := n2_
      have HO145 := n3_
      have HO148 := n4_
      have HO151 := n5_
      have HO163 := n6_
      have HO167 := n7_
      have HO170 := n8_
      have HB := n9_
      clear n0_ n1_ n2_ n3_ n4_ n5_ n6_ n7_ n8_ n9_
      have hHeld := trivial
      obtain ⟨Ao63, co63, eo63⟩ := Kd.R_slice HO167.out
      (first | subst eo63 | (injection eo63 with f1_ f2_ f3_; have f4_ := f1_.symm; have f5_ := f3_.symm; clear f1_ f2_ f3_; subst f4_; subst f5_))
      obtain ⟨Ao64, co64, eo64⟩ := Kd.R_slice HO170.out
      (first | subst eo64 | (injection eo64 with f1_ f2_ f3_; have f4_ := f1_.symm; have f5_ := f3_.symm; clear f1_ f2_ f3_; subst f4_; subst f5_))
      refine norm_ (a' := ?_) ?_ ?_
      rotate_left
      ·simp only [putAll, Act.put, List.setIfInBounds_toArray, List.set_cons_zero, List.set_cons_succ]
       rfl
      refine one_ (i := 20) (N := some 41) #[true, true, true, true, true, true, true, true, true, true, true, true, true, true, true, true, true, true, true, true, true, false, false, false, false, false, false, false, false, false, false, false] rfl rfl (one_of HT_.out (by kernel_rfl)) (by decide) (fun K hK => ?_)
      refine goes_ Try.func14 (by kernel_rfl) rfl #[.slice Ao63 t165.length co63, .slice Ao64 y168.length co64] (by rfl) rfl rfl (by (try simp only [List.map_toArray, List.map_cons, List.map_nil]); first | done | rfl | (simp only [List.length_drop, List.length_take]; rfl)) ?_
      with_reducible refine (r11_Same.calls k _ _ t165 _ _ y168 false _ ?side1 ?side2 ?side3 ?side4 A21.out).mono ?_
      (case side1 => repeat (first | exact (Kd.R_reads' HO167.out).2.2 | (with_reducible refine Kd.C_alloc ?_ _) | (with_reducible refine Kd.C_drewN ?_ _) | (with_reducible refine Kd.C_drew ?_)))
      (case side2 => exact (Kd.R_reads' HO167.out).2.1)
      (case side3 => repeat (first | exact (Kd.R_reads' HO170.out).2.2 | (with_reducible refine Kd.C_alloc ?_ _) | (with_reducible refine Kd.C_drewN ?_ _) | (with_reducible refine Kd.C_drew ?_)))
      (case side4 => exact (Kd.R_reads' HO170.out).2.1)
      rintro e w' ⟨rfl, ⟨nd, rfl⟩⟩
      refine ⟨_, rfl, ?_⟩
      refine hK.out _ _ trivial (fun hHeld => ?_)
      clear hK K
      refine norm_ (a' := ?_) ?_ ?_
      rotate_left
      ·show Act.put _ (some 41) _ = _
       simp only [Act.put, List.setIfInBounds_toArray, List.set_cons_zero, List.set_cons_succ, i64_w, i32_w]
       rfl
      refine pure_ (i := 21) (N := some 42) (v := ?_) (a' := ?_) #[true, true, true, true, true, true, true, true, true, true, true, true, true, true, true, true, true, true, true, true, true, true, false, false, false, false, false, false, false, false, false, false] rfl rfl (any_of HT_.out (by kernel_rfl)) (fun _ _ _ h => h) (Or.inl ⟨by rfl, ?_⟩) ?_ ?_
      rotate_left
      ·intro w'
       go_simp
       with_reducible rfl
      rotate_left
      ·simp only [Act.put, List.setIfInBounds_toArray, List.set_cons_zero, List.set_cons_succ, i64_w, i32_w]
       rfl
      refine pure_ (i := 22) (N := some 43) (v := ?_) (a' := ?_) #[true, true, true, true, true, true, true, true, true, true, true, true, true, true, true, true, true, true, true, true, true, true, true, false, false, false, false, false, false, false, false, false] rfl rfl (any_of HT_.out (by kernel_rfl)) (fun _ _ _ h => h) (Or.inl ⟨by rfl, ?_⟩) ?_ ?_
      rotate_left
      ·intro w'
       go_simp
       with_reducible rfl
      rotate_left
      ·simp only [Act.put, List.setIfInBounds_toArray, List.set_cons_zero, List.set_cons_succ, i64_w, i32_w]
       rfl
      refine pure_ (i := 23) (N := some 44) (v := undef) (a' := ?_) #[true, true, true, true, true, true, true, true, true, true, true, true, true, true, true, true, true, true, true, true, true, true, true, true, false, false, false, false, false, false, false, false] rfl rfl (any_of HT_.out (by kernel_rfl)) (fun _ _ _ h => h) (Or.inr ⟨by rfl, rfl⟩) ?_ ?_
      rotate_left
      ·simp only [Act.put, List.setIfInBounds_toArray, List.set_cons_zero, List.set_cons_succ, i64_w, i32_w]
       rfl
      refine pure_ (i := 24) (N := some 45) (v := undef) (a' := ?_) #[true, true, true, true, true, true, true, true, true, true, true, true, true, true, true, true, true, true, true, true, true, true, true, true, true, false, false, false, false, false, false, false] rfl rfl (any_of HT_.out (by kernel_rfl)) (fun _ _ _ h => h) (Or.inr ⟨by rfl, rfl⟩) ?_ ?_
      rotate_left
      ·simp only [Act.put, List.setIfInBounds_toArray, List.set_cons_zero, List.set_cons_succ, i64_w, i32_w]
       rfl
      refine pure_ (i := 25) (N := some 46) (v := undef) (a' := ?_) #[true, true, true, true, true, true, true, true, true, true, true, true, true, true, true, true, true, true, true, true, true, true, true, true, true, true, false, false, false, false, false, false] rfl rfl (any_of HT_.out (by kernel_rfl)) (fun _ _ _ h => h) (Or.inr ⟨by rfl, rfl⟩) ?_ ?_
      rotate_left
      ·simp only [Act.put, List.setIfInBounds_toArray, List.set_cons_zero, List.set_cons_succ, i64_w, i32_w]
       rfl
      refine pure_ (i := 26) (N := some 47) (v := undef) (a' := ?_) #[true, true, true, true, true, true, true, true, true, true, true, true, true, true, true, true, true, true, true, true, true, true, true, true, true, true, true, false, false, false, false, false] rfl rfl (any_of HT_.out (by kernel_rfl)) (fun _ _ _ h => h) (Or.inr ⟨by rfl, rfl⟩) ?_ ?_
      rotate_left
      ·simp only [Act.put, List.setIfInBounds_toArray, List.set_cons_zero, List.set_cons_succ, i64_w, i32_w]
       rfl
      refine pure_ (i := 27) (N := some 48) (v := undef) (a' := ?_) #[true, true, true, true, true, true, true, true, true, true, true, true, true, true, true, true, true, true, true, true, true, true, true, true, true, true, true, true, false, false, false, false] rfl rfl (any_of HT_.out (by kernel_rfl)) (fun _ _ _ h => h) (Or.inr ⟨by rfl, rfl⟩) ?_ ?_
      rotate_left
      ·simp only [Act.put, List.setIfInBounds_toArray, List.set_cons_zero, List.set_cons_succ, i64_w, i32_w]
       rfl
      refine pure_ (i := 28) (N := some 49) (v := undef) (a' := ?_) #[true, true, true, true, true, true, true, true, true, true, true, true, true, true, true, true, true, true, true, true, true, true, true, true, true, true, true, true, true, false, false, false] rfl rfl (any_of HT_.out (by kernel_rfl)) (fun _ _ _ h => h) (Or.inr ⟨by rfl, rfl⟩) ?_ ?_
      rotate_left
      ·simp only [Act.put, List.setIfInBounds_toArray, List.set_cons_zero, List.set_cons_succ, i64_w, i32_w]
       rfl
      refine pure_ (i := 29) (N := some 50) (v := undef) (a' := ?_) #[true, true, true, true, true, true, true, true, true, true, true, true, true, true, true, true, true, true, true, true, true, true, true, true, true, true, true, true, true, true, false, false] rfl rfl (any_of HT_.out (by kernel_rfl)) (fun _ _ _ h => h) (Or.inr ⟨by rfl, rfl⟩) ?_ ?_
      rotate_left
      ·simp only [Act.put, List.setIfInBounds_toArray, List.set_cons_zero, List.set_cons_succ, i64_w, i32_w]
       rfl
      refine pure_ (i := 30) (N := some 51) (v := ?_) (a' := ?_) #[true, true, true, true, true, true, true, true, true, true, true, true, true, true, true, true, true, true, true, true, true, true, true, true, true, true, true, true, true, true, true, false] rfl rfl (any_of HT_.out (by kernel_rfl)) (fun _ _ _ h => h) (Or.inl ⟨by rfl, ?_⟩) ?_ ?_
      rotate_left
      ·intro w'
       go_simp
       with_reducible rfl
      rotate_left
      ·simp only [Act.put, List.setIfInBounds_toArray, List.set_cons_zero, List.set_cons_succ, i64_w, i32_w]
       rfl
      refine pure_ (i := 31) (N := some 6) (v := ?_) (a' := ?_) #[true, true, true, true, true, true, true, true, true, true, true, true, true, true, true, true, true, true, true, true, true, true, true, true, true, true, true, true, true, true, true, true] rfl rfl (any_of HT_.out (by kernel_rfl)) (fun _ _ _ h => h) (Or.inl ⟨by rfl, ?_⟩) ?_ ?_
      rotate_left
      ·intro w'
       go_simp
       with_reducible rfl
      rotate_left
      ·simp only [Act.put, List.setIfInBounds_toArray, List.set_cons_zero, List.set_cons_succ, i64_w, i32_w]
       rfl
      refine done_ (done_of HT_.out (by kernel_rfl)) ?_
      try go_wp2
      go_meet
      case rel => exact ⟨_, (false), (by first | rfl | (simp; done) | (simp [*]; done)), H', ⟨by first | omega | exact Nat.le_refl _⟩, ⟨by (with_reducible repeat (first | apply Kd.R_alloc | apply Kd.R_drewN | apply Kd.R_drew)); exact Kd.R_mono HO136.out (fun _ hk => ⟨hk.1, hk.2.2.2.1⟩)⟩, ⟨by (with_reducible repeat (first | apply Kd.R_alloc | apply Kd.R_drewN | apply Kd.R_drew)); exact Kd.R_mono HO139.out (fun _ hk => ⟨hk.1, hk.2.2.2.1⟩)⟩, ⟨by (with_reducible repeat (first | apply Kd.R_alloc | apply Kd.R_drewN | apply Kd.R_drew)); exact Kd.R_mono HO148.out (fun _ hk => ⟨hk.1, hk.2.1⟩)⟩, ⟨by repeat (first | (with_reducible first | exact HB.out | apply below_alloc | apply pw_below_drewN | apply below_drew1) | exact HB.out)⟩⟩
    ·replace c19 := Bool.eq_false_iff.mpr c19
     subst c19
     have H1 : (l11_sanity.j0 k y134 y137 y146 false) = some r := by rw [if_neg (show ¬ (false = true) by decide)] at H; exact H
     clear H
     have H := H1
     clear H1
     have H' := Aside0.mk H
     clear H
     try go_wp2
     have n0_ := Aside0.mk (Kd.R_drew HO136.out)
     have n1_ := Aside0.mk (Kd.R_drew HO139.out)
     have n2_ := Aside0.mk (Kd.R_drew HO142.out)
     have n3_ := Aside0.mk (Kd.R_drew HO145.out)
     have n4_ := Aside0.mk (Kd.R_drew HO148.out)
     have n5_ := Aside0.mk (below_drew1 HB.out)
     clear HO136
     clear HO139
     clear HO142
     clear HO145
     clear HO148
     clear HB
     have HO136 := n0_
     have HO139 := n1_
     have HO142 := n2_
     have HO145 := n3_
     have HO148 := n4_
     have HB := n5_
     clear n0_ n1_ n2_ n3_ n4_ n5_
     obtain ⟨Ao66, co66, eo66⟩ := Kd.R_slice HO136.out
     (first | subst eo66 | (injection eo66 with f1_ f2_ f3_; have f4_ := f1_.symm; have f5_ := f3_.symm; clear f1_ f2_ f3_; subst f4_; subst f5_))
     refine start_ (n := 32) (S := fun w' => True) (ds := []) #[false, false, false, false, false, false, false, false, false, false, false, false, false, false, false, false, false, false, false, false, false, false, false, false, false, false, false, false, false, false, false, false] (by kernel_rfl) rfl rfl trivial (fun hHeld => ?_); refine with_tabW l11_sanity.tab3 l11_sanity.bits3 (fun HT_ HW_ => ?_)
     generalize w10.drew = w65 at HO136 HO139 HO142 HO145 HO148 HB hHeld ⊢
     refine pure_ (i := 0) (N := some 21) (v := ?_) (a' := ?_) #[true, false, false, false, false, false, false, false, false, false, false, false, false, false, false, false, false, false, false, false, false, false, false, false, false, false, false, false, false, false, false, false] rfl rfl (any_of HT_.out (by kernel_rfl)) (fun _ _ _ h => h) (Or.inl ⟨by rfl, ?_⟩) ?_ ?_
     rotate_left
     ·intro w'
      go_simp
      with_reducible rfl
     rotate_left
     ·simp only [Act.put, List.setIfInBounds_toArray, List.set_cons_zero, List.set_cons_succ, i64_w, i32_w]
      rfl
     refine pure_ (i := 2) (N := some 23) (v := ?_) (a' := ?_) #[true, false, true, false, false, false, false, false, false, false, false, false, false, false, false, false, false, false, false, false, false, false, false, false, false, false, false, false, false, false, false, false] rfl rfl (any_of HT_.out (by kernel_rfl)) (fun _ _ _ h => h) (Or.inl ⟨by rfl, ?_⟩) ?_ ?_
     rotate_left
     ·intro w'
      go_simp
      with_reducible rfl
     rotate_left
     ·simp only [Act.put, List.setIfInBounds_toArray, List.set_cons_zero, List.set_cons_succ, i64_w, i32_w]
      rfl
     refine one_ (i := 1) (N := some 22) #[true, true, true, false, false, false, false, false, false, false, false, false, false, false, false, false, false, false, false, false, false, false, false, false, false, false, false, false, false, false, false, false] rfl rfl (one_of HT_.out (by kernel_rfl)) (by decide) (fun K hK => ?_)
     refine goes_ Try.func15 (by kernel_rfl) rfl #[.slice Ao66 y134.length co66] (by rfl) rfl rfl (by (try simp only [List.map_toArray, List.map_cons, List.map_nil]); first | done | rfl | (simp only [List.length_drop, List.length_take]; rfl)) ?_
     with_reducible refine (span_Norm.calls _ _ y134 t149 _ ?side1 ?side2 A12.out).mono ?_
     (case side1 => repeat (first | exact (Kd.R_reads' HO136.out).2.2 | (with_reducible refine Kd.C_alloc ?_ _) | (with_reducible refine Kd.C_drewN ?_ _) | (with_reducible refine Kd.C_drew ?_)))
     (case side2 => exact (Kd.R_reads' HO136.out).2.1)
     rintro e w67 ⟨v150, rfl, ho0, hb⟩
     refine ⟨_, rfl, ?_⟩
     have n0_ := Aside0.mk (Kd.R_elder' (rZ HO136.out) (Kd.R_base ho0) hb)
     have n1_ := Aside0.mk (Kd.R_elder' (rZ HO139.out) (Kd.R_base ho0) hb)
     have n2_ := Aside0.mk (Kd.R_elder' (rZ HO142.out) (Kd.R_base ho0) hb)
     have n3_ := Aside0.mk (Kd.R_elder' (rZ HO145.out) (Kd.R_base ho0) hb)
     have n4_ := Aside0.mk (Kd.R_elder' (rZ HO148.out) (Kd.R_base ho0) hb)
     have n5_ := Aside0.mk (Kd.R_lower (Kd.R_new' (Kd.R_new' (Kd.R_new' (Kd.R_new' (Kd.R_new' ho0 (Kd.R_lt (rZ HO136.out))) (Kd.R_lt (rZ HO139.out))) (Kd.R_lt (rZ HO142.out))) (Kd.R_lt (rZ HO145.out))) (Kd.R_lt (rZ HO148.out))) (below_size (bZ HB.out)))
     have n6_ := Aside0.mk (below_step (bZ HB.out) hb)
     clear HO136
     clear HO139
     clear HO142
     clear HO145
     clear HO148
     clear HB
     have HO136 := n0_
     have HO139 := n1_
     have HO142 := n2_
     have HO145 := n3_
     have HO148 := n4_
     have HO151 := n5_
     have HB := n6_
     clear n0_ n1_ n2_ n3_ n4_ n5_ n6_
     (try clear hb)
     (try clear hb2)
     (try clear hk)
     (try clear hi)
     (try clear ho0)
     obtain ⟨Ao68, co68, eo68⟩ := Kd.R_slice HO151.out
     (first | subst eo68 | (injection eo68 with f1_ f2_ f3_; have f4_ := f1_.symm; have f5_ := f3_.symm; clear f1_ f2_ f3_; subst f4_; subst f5_))
     obtain ⟨Ao69, co69, eo69⟩ := Kd.R_slice HO148.out
     (first | subst eo69 | (injection eo69 with f1_ f2_ f3_; have f4_ := f1_.symm; have f5_ := f3_.symm; clear f1_ f2_ f3_; subst f4_; subst f5_))
     refine hK.out _ _ trivial (fun hHeld => ?_)
     clear hK K
     refine norm_ (a' := ?_) ?_ ?_
     rotate_left
     ·show Act.put _ (some 22) _ = _
      simp only [Act.put, List.setIfInBounds_toArray, List.set_cons_zero, List.set_cons_succ, i64_w, i32_w]
      rfl
     refine one_ (i := 3) (N := some 24) #[true, true, true, true, false, false, false, false, false, false, false, false, false, false, false, false, false, false, false, false, false, false, false, false, false, false, false, false, false, false, false, false] rfl rfl (one_of HT_.out (by kernel_rfl)) (by decide) (fun K hK => ?_)
     refine goes_ Try.func14 (by kernel_rfl) rfl #[.slice Ao68 t149.length co68, .slice Ao69 y146.length co69] (by rfl) rfl rfl (by (try simp only [List.map_toArray, List.map_cons, List.map_nil]); first | done | rfl | (simp only [List.length_drop, List.length_take]; rfl)) ?_
     with_reducible refine (r11_Same.calls k _ _ t149 _ _ y146 true _ ?side1 ?side2 ?side3 ?side4 A13.out).mono ?_
     (case side1 => repeat (first | exact (Kd.R_reads' HO151.out).2.2 | (with_reducible refine Kd.C_alloc ?_ _) | (with_reducible refine Kd.C_drewN ?_ _) | (with_reducible refine Kd.C_drew ?_)))
     (case side2 => exact (Kd.R_reads' HO151.out).2.1)
     (case side3 => repeat (first | exact (Kd.R_reads' HO148.out).2.2 | (with_reducible refine Kd.C_alloc ?_ _) | (with_reducible refine Kd.C_drewN ?_ _) | (with_reducible refine Kd.C_drew ?_)))
     (case side4 => exact (Kd.R_reads' HO148.out).2.1)
     rintro e w' ⟨rfl, ⟨nd, rfl⟩⟩
     refine ⟨_, rfl, ?_⟩
     obtain ⟨Ao71, co71, eo71⟩ := Kd.R_slice HO139.out
     (first | subst eo71 | (injection eo71 with f1_ f2_ f3_; have f4_ := f1_.symm; have f5_ := f3_.symm; clear f1_ f2_ f3_; subst f4_; subst f5_))
     have q70 : (1 : Int) ≤ ((y137.length : Int) : Int) := of_decide_eq_true (by first | (with_reducible assumption) | assumption)
     obtain ⟨i070, hi070, _, hsz70, _⟩ := info_parts info24
     have hroom70 : y137.length ≤ co71 := (Kd.R_reads' HO139.out).2.1
     have hC70 : Kd.C k24 _ Ao71 y137.length y137 := (Kd.R_reads' HO139.out).2.2
     have hcut70 := cut_to (P := Try.prog) 22 24 .i64 Try.underlying22 hi070 Ao71 y137.length co71 1 (by omega) q70 hroom70
     have hr70 := Kd.C_take (m := 1) hC70 (by omega)
     have hy70 : y153.length = (1 : Int).toNat := (by rw [Ny153.out, List.length_take]; omega)
     rw [← Ny153.out] at hr70
     rw [← hy70] at hcut70
     have HR156 := Aside0.mk hr70
     have HC156 := Aside0.mk (show y153.length ≤ co71 from by omega)
     clear hr70 hC70 hroom70 hi070 hsz70
     have KY70 := Aside0.mk hy70
     clear hy70
     have KL70 := Aside0.mk (show 1 ≤ y137.length from by omega)
     replace q70 := eq_true q70
     have q72 : (1 : Int) ≤ ((y137.length : Int) : Int) := of_decide_eq_true (by first | (with_reducible assumption) | assumption)
     obtain ⟨i072, hi072, _, hsz72, _⟩ := info_parts info24
     have hroom72 : y137.length ≤ co71 := (Kd.R_reads' HO139.out).2.1
     have hC72 : Kd.C k24 _ Ao71 y137.length y137 := (Kd.R_reads' HO139.out).2.2
     have hcut72 := cut_from (P := Try.prog) 22 24 .i64 Try.underlying22 hi072 2 hsz72 Ao71 y137.length co71 1 (by omega) q72
     have hr72 := Kd.C_drop (m := (1 : Int).toNat) (c := co71) hC72 (by omega) hroom72
     obtain ⟨A72, hA72⟩ : ∃ A1, A1 = (if co71 = (1 : Int).toNat then Ao71 else (Ao71 : Option Addr).map (·.add ((1 : Int).toNat * 2))) := ⟨_, rfl⟩
     obtain ⟨c72, hc72⟩ : ∃ c1, c1 = co71 - (1 : Int).toNat := ⟨_, rfl⟩
     have hy72 : y157.length = y137.length - (1 : Int).toNat := (by rw [Ny157.out, List.length_drop] <;> omega)
     rw [show (y137).drop (1 : Int).toNat = y157 from Ny157.out.symm] at hr72
     replace hr72 : Kd.C k24 _ A72 y157.length y157 := (by rw [hA72]; exact hr72)
     rw [← hy72, ← hA72, ← hc72] at hcut72
     have HR160 := Aside0.mk hr72
     have HC160 := Aside0.mk (show y157.length ≤ c72 from by rw [hy72, hc72]; exact Nat.sub_le_sub_right hroom72 _)
     clear hr72 hC72 hroom72 hi072 hsz72 hc72
     have KY72 := Aside0.mk hy72
     have KA72 := Aside0.mk hA72
     clear hy72 hA72
     have KL72 := Aside0.mk (show 1 ≤ y137.length from by omega)
     replace q72 := eq_true q72
     refine hK.out _ _ trivial (fun hHeld => ?_)
     clear hK K
     refine norm_ (a' := ?_) ?_ ?_
     rotate_left
     ·show Act.put _ (some 24) _ = _
      simp only [Act.put, List.setIfInBounds_toArray, List.set_cons_zero, List.set_cons_succ, i64_w, i32_w]
      rfl
     refine pure_ (i := 4) (N := some 25) (v := ?_) (a' := ?_) #[true, true, true, true, true, false, false, false, false, false, false, false, false, false, false, false, false, false, false, false, false, false, false, false, false, false, false, false, false, false, false, false] rfl rfl (any_of HT_.out (by kernel_rfl)) (fun _ _ _ h => h) (Or.inl ⟨by rfl, ?_⟩) ?_ ?_
     rotate_left
     ·intro w'
      go_simp
      with_reducible rfl
     rotate_left
     ·simp only [Act.put, List.setIfInBounds_toArray, List.set_cons_zero, List.set_cons_succ, i64_w, i32_w]
      rfl
     refine pure_ (i := 5) (N := some 26) (v := ?_) (a' := ?_) #[true, true, true, true, true, true, false, false, false, false, false, false, false, false, false, false, false, false, false, false, false, false, false, false, false, false, false, false, false, false, false, false] rfl rfl (any_of HT_.out (by kernel_rfl)) (fun _ _ _ h => h) (Or.inl ⟨by rfl, ?_⟩) ?_ ?_
     rotate_left
     ·intro w'
      go_simp
      with_reducible rfl
     rotate_left
     ·simp only [Act.put, List.setIfInBounds_toArray, List.set_cons_zero, List.set_cons_succ, i64_w, i32_w]
      rfl
     refine pure_ (i := 6) (N := some 27) (v := ?_) (a' := ?_) #[true, true, true, true, true, true, true, false, false, false, false, false, false, false, false, false, false, false, false, false, false, false, false, false, false, false, false, false, false, false, false, false] rfl rfl (any_of HT_.out (by kernel_rfl)) (fun _ _ _ h => h) (Or.inl ⟨by rfl, ?_⟩) ?_ ?_
     rotate_left
     ·intro w'
      go_simp
      with_reducible rfl
     rotate_left
     ·simp only [Act.put, List.setIfInBounds_toArray, List.set_cons_zero, List.set_cons_succ, i64_w, i32_w]
      rfl
     refine pure_ (i := 7) (N := some 28) (v := ?_) (a' := ?_) #[true, true, true, true, true, true, true, true, false, false, false, false, false, false, false, false, false, false, false, false, false, false, false, false, false, false, false, false, false, false, false, false] rfl rfl (any_of HT_.out (by kernel_rfl)) (fun _ _ _ h => h) (Or.inl ⟨by rfl, ?_⟩) ?_ ?_
     rotate_left
     ·intro w'
      go_simp
      with_reducible rfl
     rotate_left
     ·simp only [Act.put, List.setIfInBounds_toArray, List.set_cons_zero, List.set_cons_succ, i64_w, i32_w]
      rfl
     refine pure_ (i := 8) (N := some 29) (v := ?_) (a' := ?_) #[true, true, true, true, true, true, true, true, true, false, false, false, false, false, false, false, false, false, false, false, false, false, false, false, false, false, false, false, false, false, false, false] rfl rfl (any_of HT_.out (by kernel_rfl)) (fun _ _ _ h => h) (Or.inl ⟨by rfl, ?_⟩) ?_ ?_
     rotate_left
     ·intro w'
      go_simp
      with_reducible rfl
     rotate_left
     ·simp only [Act.put, List.setIfInBounds_toArray, List.set_cons_zero, List.set_cons_succ, i64_w, i32_w]
      rfl
     refine pure_ (i := 10) (N := some 31) (v := ?_) (a' := ?_) #[true, true, true, true, true, true, true, true, true, false, true, false, false, false, false, false, false, false, false, false, false, false, false, false, false, false, false, false, false, false, false, false] rfl rfl (any_of HT_.out (by kernel_rfl)) (fun _ _ _ h => h) (Or.inl ⟨by rfl, ?_⟩) ?_ ?_
     rotate_left
     ·intro w'
      go_simp
      with_reducible rfl
     rotate_left
     ·simp only [Act.put, List.setIfInBounds_toArray, List.set_cons_zero, List.set_cons_succ, i64_w, i32_w]
      rfl
     refine one_ (i := 9) (N := some 30) #[true, true, true, true, true, true, true, true, true, true, true, false, false, false, false, false, false, false, false, false, false, false, false, false, false, false, false, false, false, false, false, false] rfl rfl (one_of HT_.out (by kernel_rfl)) (by decide) (fun K hK => ?_)
     refine goes_ Try.func17 (by kernel_rfl) rfl #[.slice Ao71 y153.length co71, .slice A72 y157.length c72] (by rfl) rfl rfl (by (try simp only [List.map_toArray, List.map_cons, List.map_nil]); first | done | rfl | (simp only [List.length_drop, List.length_take]; rfl)) ?_
     with_reducible refine (span_Union.calls _ _ y153 _ _ y157 t161 _ ?side1 ?side2 ?side3 ?side4 A17.out).mono ?_
     (case side1 => repeat (first | exact (by repeat (first | (with_reducible exact HR156.out) | (with_reducible refine Kd.C_alloc ?_ _) | (with_reducible refine Kd.C_drewN ?_ _) | (with_reducible refine Kd.C_drew ?_) | exact HR156.out)) | (with_reducible refine Kd.C_alloc ?_ _) | (with_reducible refine Kd.C_drewN ?_ _) | (with_reducible refine Kd.C_drew ?_)))
     (case side2 => exact HC156.out)
     (case side3 => repeat (first | exact (by repeat (first | (with_reducible exact HR160.out) | (with_reducible refine Kd.C_alloc ?_ _) | (with_reducible refine Kd.C_drewN ?_ _) | (with_reducible refine Kd.C_drew ?_) | exact HR160.out)) | (with_reducible refine Kd.C_alloc ?_ _) | (with_reducible refine Kd.C_drewN ?_ _) | (with_reducible refine Kd.C_drew ?_)))
     (case side4 => exact HC160.out)
     rintro e w73 ⟨v162, rfl, ho0, hb⟩
     refine ⟨_, rfl, ?_⟩
     have n0_ := Aside0.mk (Kd.R_elder' (rZ HO136.out) (Kd.R_base ho0) hb)
     have n1_ := Aside0.mk (Kd.R_elder' (rZ HO139.out) (Kd.R_base ho0) hb)
     have n2_ := Aside0.mk (Kd.R_elder' (rZ HO142.out) (Kd.R_base ho0) hb)
     have n3_ := Aside0.mk (Kd.R_elder' (rZ HO145.out) (Kd.R_base ho0) hb)
     have n4_ := Aside0.mk (Kd.R_elder' (rZ HO148.out) (Kd.R_base ho0) hb)
     have n5_ := Aside0.mk (Kd.R_elder' (rZ HO151.out) (Kd.R_base ho0) hb)
     have n6_ := Aside0.mk (Kd.R_lower (Kd.R_new' (Kd.R_new' (Kd.R_new' (Kd.R_new' (Kd.R_new' (Kd.R_new' ho0 (Kd.R_lt (rZ HO136.out))) (Kd.R_lt (rZ HO139.out))) (Kd.R_lt (rZ HO142.out))) (Kd.R_lt (rZ HO145.out))) (Kd.R_lt (rZ HO148.out))) (Kd.R_lt (rZ HO151.out))) (below_size (bZ HB.out)))
     have n7_ := Aside0.mk (Kd.C_below (by repeat (first | (with_reducible exact HR156.out) | (with_reducible refine Kd.C_alloc ?_ _) | (with_reducible refine Kd.C_drewN ?_ _) | (with_reducible refine Kd.C_drew ?_) | exact HR156.out)) hb)
     have n8_ := Aside0.mk (Kd.C_below (by repeat (first | (with_reducible exact HR160.out) | (with_reducible refine Kd.C_alloc ?_ _) | (with_reducible refine Kd.C_drewN ?_ _) | (with_reducible refine Kd.C_drew ?_) | exact HR160.out)) hb)
     have n9_ := Aside0.mk (below_step (bZ HB.out) hb)
     clear HO136
     clear HO139
     clear HO142
     clear HO145
     clear HO148
     clear HO151
     clear HR156
     clear HR160
     clear HB
     have HO136 := n0_
     have HO139 := n1_
     have HO142 := n2_
     have HO145 := n3_
     have HO148 := n4_
     have HO151 := n5_
     have HO163 := n6_
     have HR156 := n7_
     have HR160 := n8_
     have HB := n9_
     clear n0_ n1_ n2_ n3_ n4_ n5_ n6_ n7_ n8_ n9_
     (try clear hb)
     (try clear hb2)
     (try clear hk)
     (try clear hi)
     (try clear ho0)
     obtain ⟨Ao74, co74, eo74⟩ := Kd.R_slice HO163.out
     (first | subst eo74 | (injection eo74 with f1_ f2_ f3_; have f4_ := f1_.symm; have f5_ := f3_.symm; clear f1_ f2_ f3_; subst f4_; subst f5_))
     refine hK.out _ _ trivial (fun hHeld => ?_)
     clear hK K
     refine norm_ (a' := ?_) ?_ ?_
     rotate_left
     ·show Act.put _ (some 30) _ = _
      simp only [Act.put, List.setIfInBounds_toArray, List.set_cons_zero, List.set_cons_succ, i64_w, i32_w]
      rfl
     refine one_ (i := 11) (N := some 32) #[true, true, true, true, true, true, true, true, true, true, true, true, false, false, false, false, false, false, false, false, false, false, false, false, false, false, false, false, false, false, false, false] rfl rfl (one_of HT_.out (by kernel_rfl)) (by decide) (fun K hK => ?_)
     refine goes_ Try.func14 (by kernel_rfl) rfl #[.slice Ao74 t161.length co74, .slice Ao71 y137.length co71] (by rfl) rfl rfl (by (try simp only [List.map_toArray, List.map_cons, List.map_nil]); first | done | rfl | (simp only [List.length_drop, List.length_take]; rfl)) ?_
     with_reducible refine (r11_Same.calls k _ _ t161 _ _ y137 false _ ?side1 ?side2 ?side3 ?side4 A18.out).mono ?_
     (case side1 => repeat (first | exact (Kd.R_reads' HO163.out).2.2 | (with_reducible refine Kd.C_alloc ?_ _) | (with_reducible refine Kd.C_drewN ?_ _) | (with_reducible refine Kd.C_drew ?_)))
     (case side2 => exact (Kd.R_reads' HO163.out).2.1)
     (case side3 => repeat (first | exact (Kd.R_reads' HO139.out).2.2 | (with_reducible refine Kd.C_alloc ?_ _) | (with_reducible refine Kd.C_drewN ?_ _) | (with_reducible refine Kd.C_drew ?_)))
     (case side4 => exact (Kd.R_reads' HO139.out).2.1)
     rintro e w' ⟨rfl, ⟨nd, rfl⟩⟩
     refine ⟨_, rfl, ?_⟩
     refine hK.out _ _ trivial (fun hHeld => ?_)
     clear hK K
     refine norm_ (a' := ?_) ?_ ?_
     rotate_left
     ·show Act.put _ (some 32) _ = _
      simp only [Act.put, List.setIfInBounds_toArray, List.set_cons_zero, List.set_cons_succ, i64_w, i32_w]
      rfl
     refine pure_ (i := 12) (N := some 33) (v := ?_) (a' := ?_) #[true, true, true, true, true, true, true, true, true, true, true, true, true, false, false, false, false, false, false, false, false, false, false, false, false, false, false, false, false, false, false, false] rfl rfl (any_of HT_.out (by kernel_rfl)) (fun _ _ _ h => h) (Or.inl ⟨by rfl, ?_⟩) ?_ ?_
     rotate_left
     ·intro w'
      go_simp
      with_reducible rfl
     rotate_left
     ·simp only [Act.put, List.setIfInBounds_toArray, List.set_cons_zero, List.set_cons_succ, i64_w, i32_w]
      rfl
     refine pure_ (i := 13) (N := some 34) (v := ?_) (a' := ?_) #[true, true, true, true, true, true, true, true, true, true, true, true, true, true, false, false, false, false, false, false, false, false, false, false, false, false, false, false, false, false, false, false] rfl rfl (any_of HT_.out (by kernel_rfl)) (fun _ _ _ h => h) (Or.inl ⟨by rfl, ?_⟩) ?_ ?_
     rotate_left
     ·intro w'
      go_simp
      with_reducible rfl
     rotate_left
     ·simp only [Act.put, List.setIfInBounds_toArray, List.set_cons_zero, List.set_cons_succ, i64_w, i32_w]
      rfl
     refine pure_ (i := 14) (N := some 35) (v := undef) (a' := ?_) #[true, true, true, true, true, true, true, true, true, true, true, true, true, true, true, false, false, false, false, false, false, false, false, false, false, false, false, false, false, false, false, false] rfl rfl (any_of HT_.out (by kernel_rfl)) (fun _ _ _ h => h) (Or.inr ⟨by rfl, rfl⟩) ?_ ?_
     rotate_left
     ·simp only [Act.put, List.setIfInBounds_toArray, List.set_cons_zero, List.set_cons_succ, i64_w, i32_w]
      rfl
     refine pure_ (i := 15) (N := some 36) (v := undef) (a' := ?_) #[true, true, true, true, true, true, true, true, true, true, true, true, true, true, true, true, false, false, false, false, false, false, false, false, false, false, false, false, false, false, false, false] rfl rfl (any_of HT_.out (by kernel_rfl)) (fun _ _ _ h => h) (Or.inr ⟨by rfl, rfl⟩) ?_ ?_
     rotate_left
     ·simp only [Act.put, List.setIfInBounds_toArray, List.set_cons_zero, List.set_cons_succ, i64_w, i32_w]
      rfl
     refine pure_ (i := 16) (N := some 37) (v := undef) (a' := ?_) #[true, true, true, true, true, true, true, true, true, true, true, true, true, true, true, true, true, false, false, false, false, false, false, false, false, false, false, false, false, false, false, false] rfl rfl (any_of HT_.out (by kernel_rfl)) (fun _ _ _ h => h) (Or.inr ⟨by rfl, rfl⟩) ?_ ?_
     rotate_left
     ·simp only [Act.put, List.setIfInBounds_toArray, List.set_cons_zero, List.set_cons_succ, i64_w, i32_w]
      rfl
     refine pure_ (i := 17) (N := some 38) (v := undef) (a' := ?_) #[true, true, true, true, true, true, true, true, true, true, true, true, true, true, true, true, true, true, false, false, false, false, false, false, false, false, false, false, false, false, false, false] rfl rfl (any_of HT_.out (by kernel_rfl)) (fun _ _ _ h => h) (Or.inr ⟨by rfl, rfl⟩) ?_ ?_
     rotate_left
     ·simp only [Act.put, List.setIfInBounds_toArray, List.set_cons_zero, List.set_cons_succ, i64_w, i32_w]
      rfl
     refine pure_ (i := 18) (N := some 39) (v := undef) (a' := ?_) #[true, true, true, true, true, true, true, true, true, true, true, true, true, true, true, true, true, true, true, false, false, false, false, false, false, false, false, false, false, false, false, false] rfl rfl (any_of HT_.out (by kernel_rfl)) (fun _ _ _ h => h) (Or.inr ⟨by rfl, rfl⟩) ?_ ?_
     rotate_left
     ·simp only [Act.put, List.setIfInBounds_toArray, List.set_cons_zero, List.set_cons_succ, i64_w, i32_w]
      rfl
     refine pure_ (i := 19) (N := some 40) (v := undef) (a' := ?_) #[true, true, true, true, true, true, true, true, true, true, true, true, true, true, true, true, true, true, true, true, false, false, false, false, false, false, false, false, false, false, false, false] rfl rfl (any_of HT_.out (by kernel_rfl)) (fun _ _ _ h => h) (Or.inr ⟨by rfl, rfl⟩) ?_ ?_
     rotate_left
     ·simp only [Act.put, List.setIfInBounds_toArray, List.set_cons_zero, List.set_cons_succ, i64_w, i32_w]
      rfl
     refine pure_ (i := 20) (N := some 41) (v := undef) (a' := ?_) #[true, true, true, true, true, true, true, true, true, true, true, true, true, true, true, true, true, true, true, true, true, false, false, false, false, false, false, false, false, false, false, false] rfl rfl (any_of HT_.out (by kernel_rfl)) (fun _ _ _ h => h) (Or.inr ⟨by rfl, rfl⟩) ?_ ?_
     rotate_left
     ·simp only [Act.put, List.setIfInBounds_toArray, List.set_cons_zero, List.set_cons_succ, i64_w, i32_w]
      rfl
     refine pure_ (i := 21) (N := some 42) (v := ?_) (a' := ?_) #[true, true, true, true, true, true, true, true, true, true, true, true, true, true, true, true, true, true, true, true, true, true, false, false, false, false, false, false, false, false, false, false] rfl rfl (any_of HT_.out (by kernel_rfl)) (fun _ _ _ h => h) (Or.inl ⟨by rfl, ?_⟩) ?_ ?_
     rotate_left
     ·intro w'
      go_simp
      with_reducible rfl
     rotate_left
     ·simp only [Act.put, List.setIfInBounds_toArray, List.set_cons_zero, List.set_cons_succ, i64_w, i32_w]
      rfl
     refine pure_ (i := 22) (N := some 43) (v := ?_) (a' := ?_) #[true, true, true, true, true, true, true, true, true, true, true, true, true, true, true, true, true, true, true, true, true, true, true, false, false, false, false, false, false, false, false, false] rfl rfl (any_of HT_.out (by kernel_rfl)) (fun _ _ _ h => h) (Or.inl ⟨by rfl, ?_⟩) ?_ ?_
     rotate_left
     ·intro w'
      go_simp
      with_reducible rfl
     rotate_left
     ·simp only [Act.put, List.setIfInBounds_toArray, List.set_cons_zero, List.set_cons_succ, i64_w, i32_w]
      rfl
     refine pure_ (i := 23) (N := some 44) (v := undef) (a' := ?_) #[true, true, true, true, true, true, true, true, true, true, true, true, true, true, true, true, true, true, true, true, true, true, true, true, false, false, false, false, false, false, false, false] rfl rfl (any_of HT_.out (by kernel_rfl)) (fun _ _ _ h => h) (Or.inr ⟨by rfl, rfl⟩) ?_ ?_
     rotate_left
     ·simp only [Act.put, List.setIfInBounds_toArray, List.set_cons_zero, List.set_cons_succ, i64_w, i32_w]
      rfl
     refine pure_ (i := 24) (N := some 45) (v := undef) (a' := ?_) #[true, true, true, true, true, true, true, true, true, true, true, true, true, true, true, true, true, true, true, true, true, true, true, true, true, false, false, false, false, false, false, false] rfl rfl (any_of HT_.out (by kernel_rfl)) (fun _ _ _ h => h) (Or.inr ⟨by rfl, rfl⟩) ?_ ?_
     rotate_left
     ·simp only [Act.put, List.setIfInBounds_toArray, List.set_cons_zero, List.set_cons_succ, i64_w, i32_w]
      rfl
     refine pure_ (i := 25) (N := some 46) (v := undef) (a' := ?_) #[true, true, true, true, true, true, true, true, true, true, true, true, true, true, true, true, true, true, true, true, true, true, true, true, true, true, false, false, false, false, false, false] rfl rfl (any_of HT_.out (by kernel_rfl)) (fun _ _ _ h => h) (Or.inr ⟨by rfl, rfl⟩) ?_ ?_
     rotate_left
     ·simp only [Act.put, List.setIfInBounds_toArray, List.set_cons_zero, List.set_cons_succ, i64_w, i32_w]
      rfl
     refine pure_ (i := 26) (N := some 47) (v := undef) (a' := ?_) #[true, true, true, true, true, true, true, true, true, true, true, true, true, true, true, true, true, true, true, true, true, true, true, true, true, true, true, false, false, false, false, false] rfl rfl (any_of HT_.out (by kernel_rfl)) (fun _ _ _ h => h) (Or.inr ⟨by rfl, rfl⟩) ?_ ?_
     rotate_left
     ·simp only [Act.put, List.setIfInBounds_toArray, List.set_cons_zero, List.set_cons_succ, i64_w, i32_w]
      rfl
     refine pure_ (i := 27) (N := some 48) (v := undef) (a' := ?_) #[true, true, true, true, true, true, true, true, true, true, true, true, true, true, true, true, true, true, true, true, true, true, true, true, true, true, true, true, false, false, false, false] rfl rfl (any_of HT_.out (by kernel_rfl)) (fun _ _ _ h => h) (Or.inr ⟨by rfl, rfl⟩) ?_ ?_
     rotate_left
     ·simp only [Act.put, List.setIfInBounds_toArray, List.set_cons_zero, List.set_cons_succ, i64_w, i32_w]
      rfl
     refine pure_ (i := 28) (N := some 49) (v := undef) (a' := ?_) #[true, true, true, true, true, true, true, true, true, true, true, true, true, true, true, true, true, true, true, true, true, true, true, true, true, true, true, true, true, false, false, false] rfl rfl (any_of HT_.out (by kernel_rfl)) (fun _ _ _ h => h) (Or.inr ⟨by rfl, rfl⟩) ?_ ?_
     rotate_left
     ·simp only [Act.put, List.setIfInBounds_toArray, List.set_cons_zero, List.set_cons_succ, i64_w, i32_w]
      rfl
     refine pure_ (i := 29) (N := some 50) (v := undef) (a' := ?_) #[true, true, true, true, true, true, true, true, true, true, true, true, true, true, true, true, true, true, true, true, true, true, true, true, true, true, true, true, true, true, false, false] rfl rfl (any_of HT_.out (by kernel_rfl)) (fun _ _ _ h => h) (Or.inr ⟨by rfl, rfl⟩) ?_ ?_
     rotate_left
     ·simp only [Act.put, List.setIfInBounds_toArray, List.set_cons_zero, List.set_cons_succ, i64_w, i32_w]
      rfl
     refine pure_ (i := 30) (N := some 51) (v := ?_) (a' := ?_) #[true, true, true, true, true, true, true, true, true, true, true, true, true, true, true, true, true, true, true, true, true, true, true, true, true, true, true, true, true, true, true, false] rfl rfl (any_of HT_.out (by kernel_rfl)) (fun _ _ _ h => h) (Or.inl ⟨by rfl, ?_⟩) ?_ ?_
     rotate_left
     ·intro w'
      go_simp
      with_reducible rfl
     rotate_left
     ·simp only [Act.put, List.setIfInBounds_toArray, List.set_cons_zero, List.set_cons_succ, i64_w, i32_w]
      rfl
     refine pure_ (i := 31) (N := some 6) (v := ?_) (a' := ?_) #[true, true, true, true, true, true, true, true, true, true, true, true, true, true, true, true, true, true, true, true, true, true, true, true, true, true, true, true, true, true, true, true] rfl rfl (any_of HT_.out (by kernel_rfl)) (fun _ _ _ h => h) (Or.inl ⟨by rfl, ?_⟩) ?_ ?_
     rotate_left
     ·intro w'
      go_simp
      with_reducible rfl
     rotate_left
     ·simp only [Act.put, List.setIfInBounds_toArray, List.set_cons_zero, List.set_cons_succ, i64_w, i32_w]
      rfl
     refine done_ (done_of HT_.out (by kernel_rfl)) ?_
     try go_wp2
     go_meet
     case rel => exact ⟨_, (false), (by first | rfl | (simp; done) | (simp [*]; done)), H', ⟨by first | omega | exact Nat.le_refl _⟩, ⟨by (with_reducible repeat (first | apply Kd.R_alloc | apply Kd.R_drewN | apply Kd.R_drew)); exact Kd.R_mono HO136.out (fun _ hk => ⟨hk.1.1.1.1.1.2, hk.1.1.2⟩)⟩, ⟨by (with_reducible repeat (first | apply Kd.R_alloc | apply Kd.R_drewN | apply Kd.R_drew)); exact Kd.R_mono HO139.out (fun _ hk => ⟨hk.1.1.1.1.1.2, hk.1.1.2⟩)⟩, ⟨by (with_reducible repeat (first | apply Kd.R_alloc | apply Kd.R_drewN | apply Kd.R_drew)); exact Kd.R_mono HO148.out (fun _ hk => ⟨hk.1.1.1.1.1.2, hk.1.1.1.1.2⟩)⟩, ⟨by repeat (first | (with_reducible first | exact HB.out | apply below_alloc | apply pw_below_drewN | apply below_drew1) | exact HB.out)⟩⟩
   ·rw [if_neg c15] at H
    exact absurd H (by simp)
  ·replace c14 := Bool.eq_false_iff.mpr c14
   subst c14
   have H1 : (l11_sanity.j0 k y134 y137 y146 false) = some r := by rw [if_neg (show ¬ (false = true) by decide)] at H; exact H
   clear H
   have H := H1
   clear H1
   have H' := Aside0.mk H
   clear H
   try go_wp2
   have n0_ := Aside0.mk (Kd.R_drew HO136.out)
   have n1_ := Aside0.mk (Kd.R_drew HO139.out)
   have n2_ := Aside0.mk (Kd.R_drew HO142.out)
   have n3_ := Aside0.mk (Kd.R_drew HO145.out)
   have n4_ := Aside0.mk (Kd.R_drew HO148.out)
   have n5_ := Aside0.mk (below_drew1 HB.out)
   clear HO136
   clear HO139
   clear HO142
   clear HO145
   clear HO148
   clear HB
   have HO136 := n0_
   have HO139 := n1_
   have HO142 := n2_
   have HO145 := n3_
   have HO148 := n4_
   have HB := n5_
   clear n0_ n1_ n2_ n3_ n4_ n5_
   obtain ⟨Ao76, co76, eo76⟩ := Kd.R_slice HO136.out
   (first | subst eo76 | (injection eo76 with f1_ f2_ f3_; have f4_ := f1_.symm; have f5_ := f3_.symm; clear f1_ f2_ f3_; subst f4_; subst f5_))
   refine start_ (n := 32) (S := fun w' => True) (ds := []) #[false, false, false, false, false, false, false, false, false, false, false, false, false, false, false, false, false, false, false, false, false, false, false, false, false, false, false, false, false, false, false, false] (by kernel_rfl) rfl rfl trivial (fun hHeld => ?_); refine with_tabW l11_sanity.tab3 l11_sanity.bits3 (fun HT_ HW_ => ?_)
   generalize w10.drew = w75 at HO136 HO139 HO142 HO145 HO148 HB hHeld ⊢
   refine pure_ (i := 0) (N := some 21) (v := ?_) (a' := ?_) #[true, false, false, false, false, false, false, false, false, false, false, false, false, false, false, false, false, false, false, false, false, false, false, false, false, false, false, false, false, false, false, false] rfl rfl (any_of HT_.out (by kernel_rfl)) (fun _ _ _ h => h) (Or.inl ⟨by rfl, ?_⟩) ?_ ?_
   rotate_left
   ·intro w'
    go_simp
    with_reducible rfl
   rotate_left
   ·simp only [Act.put, List.setIfInBounds_toArray, List.set_cons_zero, List.set_cons_succ, i64_w, i32_w]
    rfl
   refine pure_ (i := 2) (N := some 23) (v := ?_) (a' := ?_) #[true, false, true, false, false, false, false, false, false, false, false, false, false, false, false, false, false, false, false, false, false, false, false, false, false, false, false, false, false, false, false, false] rfl rfl (any_of HT_.out (by kernel_rfl)) (fun _ _ _ h => h) (Or.inl ⟨by rfl, ?_⟩) ?_ ?_
   rotate_left
   ·intro w'
    go_simp
    with_reducible rfl
   rotate_left
   ·simp only [Act.put, List.setIfInBounds_toArray, List.set_cons_zero, List.set_cons_succ, i64_w, i32_w]
    rfl
   refine one_ (i := 1) (N := some 22) #[true, true, true, false, false, false, false, false, false, false, false, false, false, false, false, false, false, false, false, false, false, false, false, false, false, false, false, false, false, false, false, false] rfl rfl (one_of HT_.out (by kernel_rfl)) (by decide) (fun K hK => ?_)
   refine goes_ Try.func15 (by kernel_rfl) rfl #[.slice Ao76 y134.length co76] (by rfl) rfl rfl (by (try simp only [List.map_toArray, List.map_cons, List.map_nil]); first | done | rfl | (simp only [List.length_drop, List.length_take]; rfl)) ?_
   with_reducible refine (span_Norm.calls _ _ y134 t149 _ ?side1 ?side2 A12.out).mono ?_
   (case side1 => repeat (first | exact (Kd.R_reads' HO136.out).2.2 | (with_reducible refine Kd.C_alloc ?_ _) | (with_reducible refine Kd.C_drewN ?_ _) | (with_reducible refine Kd.C_drew ?_)))
   (case side2 => exact (Kd.R_reads' HO136.out).2.1)
   rintro e w77 ⟨v150, rfl, ho0, hb⟩
   refine ⟨_, rfl, ?_⟩
   have n0_ := Aside0.mk (Kd.R_elder' (rZ HO136.out) (Kd.R_base ho0) hb)
   have n1_ := Aside0.mk (Kd.R_elder' (rZ HO139.out) (Kd.R_base ho0) hb)
   have n2_ := Aside0.mk (Kd.R_elder' (rZ HO142.out) (Kd.R_base ho0) hb)
   have n3_ := Aside0.mk (Kd.R_elder' (rZ HO145.out) (Kd.R_base ho0) hb)
   have n4_ := Aside0.mk (Kd.R_elder' (rZ HO148.out) (Kd.R_base ho0) hb)
   have n5_ := Aside0.mk (Kd.R_lower (Kd.R_new' (Kd.R_new' (Kd.R_new' (Kd.R_new' (Kd.R_new' ho0 (Kd.R_lt (rZ HO136.out))) (Kd.R_lt (rZ HO139.out))) (Kd.R_lt (rZ HO142.out))) (Kd.R_lt (rZ HO145.out))) (Kd.R_lt (rZ HO148.out))) (below_size (bZ HB.out)))
   have n6_ := Aside0.mk (below_step (bZ HB.out) hb)
   clear HO136
   clear HO139
   clear HO142
   clear HO145
   clear HO148
   clear HB
   have HO136 := n0_
   have HO139 := n1_
   have HO142 := n2_
   have HO145 := n3_
   have HO148 := n4_
   have HO151 := n5_
   have HB := n6_
   clear n0_ n1_ n2_ n3_ n4_ n5_ n6_
   (try clear hb)
   (try clear hb2)
   (try clear hk)
   (try clear hi)
   (try clear ho0)
   obtain ⟨Ao78, co78, eo78⟩ := Kd.R_slice HO151.out
   (first | subst eo78 | (injection eo78 with f1_ f2_ f3_; have f4_ := f1_.symm; have f5_ := f3_.symm; clear f1_ f2_ f3_; subst f4_; subst f5_))
   obtain ⟨Ao79, co79, eo79⟩ := Kd.R_slice HO148.out
   (first | subst eo79 | (injection eo79 with f1_ f2_ f3_; have f4_ := f1_.symm; have f5_ := f3_.symm; clear f1_ f2_ f3_; subst f4_; subst f5_))
   refine hK.out _ _ trivial (fun hHeld => ?_)
   clear hK K
   refine norm_ (a' := ?_) ?_ ?_
   rotate_left
   ·show Act.put _ (some 22) _ = _
    simp only [Act.put, List.setIfInBounds_toArray, List.set_cons_zero, List.set_cons_succ, i64_w, i32_w]
    rfl
   refine one_ (i := 3) (N := some 24) #[true, true, true, true, false, false, false, false, false, false, false, false, false, false, false, false, false, false, false, false, false, false, false, false, false, false, false, false, false, false, false, false] rfl rfl (one_of HT_.out (by kernel_rfl)) (by decide) (fun K hK => ?_)
   refine goes_ Try.func14 (by kernel_rfl) rfl #[.slice Ao78 t149.length co78, .slice Ao79 y146.length co79] (by rfl) rfl rfl (by (try simp only [List.map_toArray, List.map_cons, List.map_nil]); first | done | rfl | (simp only [List.length_drop, List.length_take]; rfl)) ?_
   with_reducible refine (r11_Same.calls k _ _ t149 _ _ y146 false _ ?side1 ?side2 ?side3 ?side4 A13.out).mono ?_
   (case side1 => repeat (first | exact (Kd.R_reads' HO151.out).2.2 | (with_reducible refine Kd.C_alloc ?_ _) | (with_reducible refine Kd.C_drewN ?_ _) | (with_reducible refine Kd.C_drew ?_)))
   (case side2 => exact (Kd.R_reads' HO151.out).2.1)
   (case side3 => repeat (first | exact (Kd.R_reads' HO148.out).2.2 | (with_reducible refine Kd.C_alloc ?_ _) | (with_reducible refine Kd.C_drewN ?_ _) | (with_reducible refine Kd.C_drew ?_)))
   (case side4 => exact (Kd.R_reads' HO148.out).2.1)
   rintro e w' ⟨rfl, ⟨nd, rfl⟩⟩
   refine ⟨_, rfl, ?_⟩
   refine hK.out _ _ trivial (fun hHeld => ?_)
   clear hK K
   refine norm_ (a' := ?_) ?_ ?_
   rotate_left
   ·show Act.put _ (some 24) _ = _
    simp only [Act.put, List.setIfInBounds_toArray, List.set_cons_zero, List.set_cons_succ, i64_w, i32_w]
    rfl
   refine pure_ (i := 4) (N := some 25) (v := ?_) (a' := ?_) #[true, true, true, true, true, false, false, false, false, false, false, false, false, false, false, false, false, false, false, false, false, false, false, false, false, false, false, false, false, false, false, false] rfl rfl (any_of HT_.out (by kernel_rfl)) (fun _ _ _ h => h) (Or.inl ⟨by rfl, ?_⟩) ?_ ?_
   rotate_left
   ·intro w'
    go_simp
    with_reducible rfl
   rotate_left
   ·simp only [Act.put, List.setIfInBounds_toArray, List.set_cons_zero, List.set_cons_succ, i64_w, i32_w]
    rfl
   refine pure_ (i := 5) (N := some 26) (v := undef) (a' := ?_) #[true, true, true, true, true, true, false, false, false, false, false, false, false, false, false, false, false, false, false, false, false, false, false, false, false, false, false, false, false, false, false, false] rfl rfl (any_of HT_.out (by kernel_rfl)) (fun _ _ _ h => h) (Or.inr ⟨by rfl, rfl⟩) ?_ ?_
   rotate_left
   ·simp only [Act.put, List.setIfInBounds_toArray, List.set_cons_zero, List.set_cons_succ, i64_w, i32_w]
    rfl
   refine pure_ (i := 6) (N := some 27) (v := undef) (a' := ?_) #[true, true, true, true, true, true, true, false, false, false, false, false, false, false, false, false, false, false, false, false, false, false, false, false, false, false, false, false, false, false, false, false] rfl rfl (any_of HT_.out (by kernel_rfl)) (fun _ _ _ h => h) (Or.inr ⟨by rfl, rfl⟩) ?_ ?_
   rotate_left
   ·simp only [Act.put, List.setIfInBounds_toArray, List.set_cons_zero, List.set_cons_succ, i64_w, i32_w]
    rfl
   refine pure_ (i := 7) (N := some 28) (v := undef) (a' := ?_) #[true, true, true, true, true, true, true, true, false, false, false, false, false, false, false, false, false, false, false, false, false, false, false, false, false, false, false, false, false, false, false, false] rfl rfl (any_of HT_.out (by kernel_rfl)) (fun _ _ _ h => h) (Or.inr ⟨by rfl, rfl⟩) ?_ ?_
   rotate_left
   ·simp only [Act.put, List.setIfInBounds_toArray, List.set_cons_zero, List.set_cons_succ, i64_w, i32_w]
    rfl
   refine pure_ (i := 8) (N := some 29) (v := undef) (a' := ?_) #[true, true, true, true, true, true, true, true, true, false, false, false, false, false, false, false, false, false, false, false, false, false, false, false, false, false, false, false, false, false, false, false] rfl rfl (any_of HT_.out (by kernel_rfl)) (fun _ _ _ h => h) (Or.inr ⟨by rfl, rfl⟩) ?_ ?_
   rotate_left
   ·simp only [Act.put, List.setIfInBounds_toArray, List.set_cons_zero, List.set_cons_succ, i64_w, i32_w]
    rfl
   refine pure_ (i := 9) (N := some 30) (v := undef) (a' := ?_) #[true, true, true, true, true, true, true, true, true, true, false, false, false, false, false, false, false, false, false, false, false, false, false, false, false, false, false, false, false, false, false, false] rfl rfl (any_of HT_.out (by kernel_rfl)) (fun _ _ _ h => h) (Or.inr ⟨by rfl, rfl⟩) ?_ ?_
   rotate_left
   ·simp only [Act.put, List.setIfInBounds_toArray, List.set_cons_zero, List.set_cons_succ, i64_w, i32_w]
    rfl
   refine pure_ (i := 10) (N := some 31) (v := undef) (a' := ?_) #[true, true, true, true, true, true, true, true, true, true, true, false, false, false, false, false, false, false, false, false, false, false, false, false, false, false, false, false, false, false, false, false] rfl rfl (any_of HT_.out (by kernel_rfl)) (fun _ _ _ h => h) (Or.inr ⟨by rfl, rfl⟩) ?_ ?_
   rotate_left
   ·simp only [Act.put, List.setIfInBounds_toArray, List.set_cons_zero, List.set_cons_succ, i64_w, i32_w]
    rfl
   refine pure_ (i := 11) (N := some 32) (v := undef) (a' := ?_) #[true, true, true, true, true, true, true, true, true, true, true, true, false, false, false, false, false, false, false, false, false, false, false, false, false, false, false, false, false, false, false, false] rfl rfl (any_of HT_.out (by kernel_rfl)) (fun _ _ _ h => h) (Or.inr ⟨by rfl, rfl⟩) ?_ ?_
   rotate_left
   ·simp only [Act.put, List.setIfInBounds_toArray, List.set_cons_zero, List.set_cons_succ, i64_w, i32_w]
    rfl
   refine pure_ (i := 12) (N := some 33) (v := ?_) (a' := ?_) #[true, true, true, true, true, true, true, true, true, true, true, true, true, false, false, false, false, false, false, false, false, false, false, false, false, false, false, false, false, false, false, false] rfl rfl (any_of HT_.out (by kernel_rfl)) (fun _ _ _ h => h) (Or.inl ⟨by rfl, ?_⟩) ?_ ?_
   rotate_left
   ·intro w'
    go_simp
    with_reducible rfl
   rotate_left
   ·simp only [Act.put, List.setIfInBounds_toArray, List.set_cons_zero, List.set_cons_succ, i64_w, i32_w]
    rfl
   refine pure_ (i := 13) (N := some 34) (v := ?_) (a' := ?_) #[true, true, true, true, true, true, true, true, true, true, true, true, true, true, false, false, false, false, false, false, false, false, false, false, false, false, false, false, false, false, false, false] rfl rfl (any_of HT_.out (by kernel_rfl)) (fun _ _ _ h => h) (Or.inl ⟨by rfl, ?_⟩) ?_ ?_
   rotate_left
   ·intro w'
    go_simp
    with_reducible rfl
   rotate_left
   ·simp only [Act.put, List.setIfInBounds_toArray, List.set_cons_zero, List.set_cons_succ, i64_w, i32_w]
    rfl
   refine pure_ (i := 14) (N := some 35) (v := undef) (a' := ?_) #[true, true, true, true, true, true, true, true, true, true, true, true, true, true, true, false, false, false, false, false, false, false, false, false, false, false, false, false, false, false, false, false] rfl rfl (any_of HT_.out (by kernel_rfl)) (fun _ _ _ h => h) (Or.inr ⟨by rfl, rfl⟩) ?_ ?_
   rotate_left
   ·simp only [Act.put, List.setIfInBounds_toArray, List.set_cons_zero, List.set_cons_succ, i64_w, i32_w]
    rfl
   refine pure_ (i := 15) (N := some 36) (v := undef) (a' := ?_) #[true, true, true, true, true, true, true, true, true, true, true, true, true, true, true, true, false, false, false, false, false, false, false, false, false, false, false, false, false, false, false, false] rfl rfl (any_of HT_.out (by kernel_rfl)) (fun _ _ _ h => h) (Or.inr ⟨by rfl, rfl⟩) ?_ ?_
   rotate_left
   ·simp only [Act.put, List.setIfInBounds_toArray, List.set_cons_zero, List.set_cons_succ, i64_w, i32_w]
    rfl
   refine pure_ (i := 16) (N := some 37) (v := undef) (a' := ?_) #[true, true, true, true, true, true, true, true, true, true, true, true, true, true, true, true, true, false, false, false, false, false, false, false, false, false, false, false, false, false, false, false] rfl rfl (any_of HT_.out (by kernel_rfl)) (fun _ _ _ h => h) (Or.inr ⟨by rfl, rfl⟩) ?_ ?_
   rotate_left
   ·simp only [Act.put, List.setIfInBounds_toArray, List.set_cons_zero, List.set_cons_succ, i64_w, i32_w]
    rfl
   refine pure_ (i := 17) (N := some 38) (v := undef) (a' := ?_) #[true, true, true, true, true, true, true, true, true, true, true, true, true, true, true, true, true, true, false, false, false, false, false, false, false, false, false, false, false, false, false, false] rfl rfl (any_of HT_.out (by kernel_rfl)) (fun _ _ _ h => h) (Or.inr ⟨by rfl, rfl⟩) ?_ ?_
   rotate_left
   ·simp only [Act.put, List.setIfInBounds_toArray, List.set_cons_zero, List.set_cons_succ, i64_w, i32_w]
    rfl
   refine pure_ (i := 18) (N := some 39) (v := undef) (a' := ?_) #[true, true, true, true, true, true, true, true, true, true, true, true, true, true, true, true, true, true, true, false, false, false, false, false, false, false, false, false, false, false, false, false] rfl rfl (any_of HT_.out (by kernel_rfl)) (fun _ _ _ h => h) (Or.inr ⟨by rfl, rfl⟩) ?_ ?_
   rotate_left
   ·simp only [Act.put, List.setIfInBounds_toArray, List.set_cons_zero, List.set_cons_succ, i64_w, i32_w]
    rfl
   refine pure_ (i := 19) (N := some 40) (v := undef) (a' := ?_) #[true, true, true, true, true, true, true, true, true, true, true, true, true, true, true, true, true, true, true, true, false, false, false, false, false, false, false, false, false, false, false, false] rfl rfl (any_of HT_.out (by kernel_rfl)) (fun _ _ _ h => h) (Or.inr ⟨by rfl, rfl⟩) ?_ ?_
   rotate_left
   ·simp only [Act.put, List.setIfInBounds_toArray, List.set_cons_zero, List.set_cons_succ, i64_w, i32_w]
    rfl
   refine pure_ (i := 20) (N := some 41) (v := undef) (a' := ?_) #[true, true, true, true, true, true, true, true, true, true, true, true, true, true, true, true, true, true, true, true, true, false, false, false, false, false, false, false, false, false, false, false] rfl rfl (any_of HT_.out (by kernel_rfl)) (fun _ _ _ h => h) (Or.inr ⟨by rfl, rfl⟩) ?_ ?_
   rotate_left
   ·simp only [Act.put, List.setIfInBounds_toArray, List.set_cons_zero, List.set_cons_succ, i64_w, i32_w]
    rfl
   refine pure_ (i := 21) (N := some 42) (v := ?_) (a' := ?_) #[true, true, true, true, true, true, true, true, true, true, true, true, true, true, true, true, true, true, true, true, true, true, false, false, false, false, false, false, false, false, false, false] rfl rfl (any_of HT_.out (by kernel_rfl)) (fun _ _ _ h => h) (Or.inl ⟨by rfl, ?_⟩) ?_ ?_
   rotate_left
   ·intro w'
    go_simp
    with_reducible rfl
   rotate_left
   ·simp only [Act.put, List.setIfInBounds_toArray, List.set_cons_zero, List.set_cons_succ, i64_w, i32_w]
    rfl
   refine pure_ (i := 22) (N := some 43) (v := ?_) (a' := ?_) #[true, true, true, true, true, true, true, true, true, true, true, true, true, true, true, true, true, true, true, true, true, true, true, false, false, false, false, false, false, false, false, false] rfl rfl (any_of HT_.out (by kernel_rfl)) (fun _ _ _ h => h) (Or.inl ⟨by rfl, ?_⟩) ?_ ?_
   rotate_left
   ·intro w'
    go_simp
    with_reducible rfl
   rotate_left
   ·simp only [Act.put, List.setIfInBounds_toArray, List.set_cons_zero, List.set_cons_succ, i64_w, i32_w]
    rfl
   refine pure_ (i := 23) (N := some 44) (v := undef) (a' := ?_) #[true, true, true, true, true, true, true, true, true, true, true, true, true, true, true, true, true, true, true, true, true, true, true, true, false, false, false, false, false, false, false, false] rfl rfl (any_of HT_.out (by kernel_rfl)) (fun _ _ _ h => h) (Or.inr ⟨by rfl, rfl⟩) ?_ ?_
   rotate_left
   ·simp only [Act.put, List.setIfInBounds_toArray, List.set_cons_zero, List.set_cons_succ, i64_w, i32_w]
    rfl
   refine pure_ (i := 24) (N := some 45) (v := undef) (a' := ?_) #[true, true, true, true, true, true, true, true, true, true, true, true, true, true, true, true, true, true, true, true, true, true, true, true, true, false, false, false, false, false, false, false] rfl rfl (any_of HT_.out (by kernel_rfl)) (fun _ _ _ h => h) (Or.inr ⟨by rfl, rfl⟩) ?_ ?_
   rotate_left
   ·simp only [Act.put, List.setIfInBounds_toArray, List.set_cons_zero, List.set_cons_succ, i64_w, i32_w]
    rfl
   refine pure_ (i := 25) (N := some 46) (v := undef) (a' := ?_) #[true, true, true, true, true, true, true, true, true, true, true, true, true, true, true, true, true, true, true, true, true, true, true, true, true, true, false, false, false, false, false, false] rfl rfl (any_of HT_.out (by kernel_rfl)) (fun _ _ _ h => h) (Or.inr ⟨by rfl, rfl⟩) ?_ ?_
   rotate_left
   ·simp only [Act.put, List.setIfInBounds_toArray, List.set_cons_zero, List.set_cons_succ, i64_w, i32_w]
    rfl
   refine pure_ (i := 26) (N := some 47) (v := undef) (a' := ?_) #[true, true, true, true, true, true, true, true, true, true, true, true, true, true, true, true, true, true, true, true, true, true, true, true, true, true, true, false, false, false, false, false] rfl rfl (any_of HT_.out (by kernel_rfl)) (fun _ _ _ h => h) (Or.inr ⟨by rfl, rfl⟩) ?_ ?_
   rotate_left
   ·simp only [Act.put, List.setIfInBounds_toArray, List.set_cons_zero, List.set_cons_succ, i64_w, i32_w]
    rfl
   refine pure_ (i := 27) (N := some 48) (v := undef) (a' := ?_) #[true, true, true, true, true, true, true, true, true, true, true, true, true, true, true, true, true, true, true, true, true, true, true, true, true, true, true, true, false, false, false, false] rfl rfl (any_of HT_.out (by kernel_rfl)) (fun _ _ _ h => h) (Or.inr ⟨by rfl, rfl⟩) ?_ ?_
   rotate_left
   ·simp only [Act.put, List.setIfInBounds_toArray, List.set_cons_zero, List.set_cons_succ, i64_w, i32_w]
    rfl
   refine pure_ (i := 28) (N := some 49) (v := undef) (a' := ?_) #[true, true, true, true, true, true, true, true, true, true, true, true, true, true, true, true, true, true, true, true, true, true, true, true, true, true, true, true, true, false, false, false] rfl rfl (any_of HT_.out (by kernel_rfl)) (fun _ _ _ h => h) (Or.inr ⟨by rfl, rfl⟩) ?_ ?_
   rotate_left
   ·simp only [Act.put, List.setIfInBounds_toArray, List.set_cons_zero, List.set_cons_succ, i64_w, i32_w]
    rfl
   refine pure_ (i := 29) (N := some 50) (v := undef) (a' := ?_) #[true, true, true, true, true, true, true, true, true, true, true, true, true, true, true, true, true, true, true, true, true, true, true, true, true, true, true, true, true, true, false, false] rfl rfl (any_of HT_.out (by kernel_rfl)) (fun _ _ _ h => h) (Or.inr ⟨by rfl, rfl⟩) ?_ ?_
   rotate_left
   ·simp only [Act.put, List.setIfInBounds_toArray, List.set_cons_zero, List.set_cons_succ, i64_w, i32_w]
    rfl
   refine pure_ (i := 30) (N := some 51) (v := ?_) (a' := ?_) #[true, true, true, true, true, true, true, true, true, true, true, true, true, true, true, true, true, true, true, true, true, true, true, true, true, true, true, true, true, true, true, false] rfl rfl (any_of HT_.out (by kernel_rfl)) (fun _ _ _ h => h) (Or.inl ⟨by rfl, ?_⟩) ?_ ?_
   rotate_left
   ·intro w'
    go_simp
    with_reducible rfl
   rotate_left
   ·simp only [Act.put, List.setIfInBounds_toArray, List.set_cons_zero, List.set_cons_succ, i64_w, i32_w]
    rfl
   refine pure_ (i := 31) (N := some 6) (v := ?_) (a' := ?_) #[true, true, true, true, true, true, true, true, true, true, true, true, true, true, true, true, true, true, true, true, true, true, true, true, true, true, true, true, true, true, true, true] rfl rfl (any_of HT_.out (by kernel_rfl)) (fun _ _ _ h => h) (Or.inl ⟨by rfl, ?_⟩) ?_ ?_
   rotate_left
   ·intro w'
    go_simp
    with_reducible rfl
   rotate_left
   ·simp only [Act.put, List.setIfInBounds_toArray, List.set_cons_zero, List.set_cons_succ, i64_w, i32_w]
    rfl
   refine done_ (done_of HT_.out (by kernel_rfl)) ?_
   try go_wp2
   go_meet
   case rel => exact ⟨_, (false), (by first | rfl | (simp; done) | (simp [*]; done)), H', ⟨by first | omega | exact Nat.le_refl _⟩, ⟨by (with_reducible repeat (first | apply Kd.R_alloc | apply Kd.R_drewN | apply Kd.R_drew)); exact Kd.R_mono HO136.out (fun _ hk => ⟨hk.1.1.1.1.2, hk.1.2⟩)⟩, ⟨by (with_reducible repeat (first | apply Kd.R_alloc | apply Kd.R_drewN | apply Kd.R_drew)); exact Kd.R_mono HO139.out (fun _ hk => ⟨hk.1.1.1.1.2, hk.1.2⟩)⟩, ⟨by (with_reducible repeat (first | apply Kd.R_alloc | apply Kd.R_drewN | apply Kd.R_drew)); exact Kd.R_mono HO148.out (fun _ hk => ⟨hk.1.1.1.1.2, hk.1.1.1.2⟩)⟩, ⟨by repeat (first | (with_reducible first | exact HB.out | apply below_alloc | apply pw_below_drewN | apply below_drew1) | exact HB.out)⟩⟩
 case rest =>
  clear HC1
  try clear c1
  try clear p2
  try clear c7
  try clear q7
  try clear c14
  try clear c15
  try clear c17
  try clear q70
  try clear c72
  try clear q72
  try clear q70
  try clear q72
  obtain ⟨kq, x6_0, rfl, HA, HJ0, HO_1, HO_2, HO_5, HB⟩ := hcut
  cases kq with
  | zero => exact absurd HA.out (by simp [l11_sanity.j0])
  | succ kj0 =>
   have H := HA.out
   clear HA
   simp only [l11_sanity.j0] at H
   have HC80 := Aside0.mk H
   clear H
   go_upto_region 4 with (fail)
   go_cut [7] (fun v7 wc => ∃ (kq : Nat) (x7_79 : Bool), v7 = .bool x7_79 ∧ Aside0 (l11_sanity.j1 kq y134 y137 x6_0 x7_79 = some r) ∧ Aside0 (kq ≤ kj0) ∧ Aside0 (Kd.R k24 24 wc w.heap.size (fun k_ => some k_ ≠ (v138 : Value).ownBlock) v135 y134) ∧ Aside0 (Kd.R k24 24 wc w.heap.size (fun k_ => some k_ ≠ (v135 : Value).ownBlock) v138 y137) ∧ Aside0 (Below w.heap.size w wc))
   case first =>
    have H := HC80.out
    clear HC80
    replace H := Option.bind_eq_some_iff.mp H
    obtain ⟨t179, A810, H⟩ := H
    replace H : (if t179 = true then ((span_Covers.f y146 4 6).bind fun t180 => (if t180 = true then (l11_sanity.j1 kj0 y134 y137 x6_0 false) else ((span_Covers.f y146 9 9).bind fun t181 => (l11_sanity.j1 kj0 y134 y137 x6_0 t181)))) else (l11_sanity.j1 kj0 y134 y137 x6_0 false)) = some r := H
    have A81 := Aside0.mk A810
    clear A810
    by_cases c82 : t179 = true
    ·subst c82
     have H1 : ((span_Covers.f y146 4 6).bind fun t180 => (if t180 = true then (l11_sanity.j1 kj0 y134 y137 x6_0 false) else ((span_Covers.f y146 9 9).bind fun t181 => (l11_sanity.j1 kj0 y134 y137 x6_0 t181)))) = some r := by rw [if_pos rfl] at H; exact H
     clear H
     have H := H1
     clear H1
     replace H := Option.bind_eq_some_iff.mp H
     obtain ⟨t180, A830, H⟩ := H
     replace H : (if t180 = true then (l11_sanity.j1 kj0 y134 y137 x6_0 false) else ((span_Covers.f y146 9 9).bind fun t181 => (l11_sanity.j1 kj0 y134 y137 x6_0 t181))) = some r := H
     have A83 := Aside0.mk A830
     clear A830
     by_cases c84 : t180 = true
     ·subst c84
      have H1 : (l11_sanity.j1 kj0 y134 y137 x6_0 false) = some r := by rw [if_pos rfl] at H; exact H
      clear H
      have H := H1
      clear H1
      have H' := Aside0.mk H
      clear H
      obtain ⟨Ao85, co85, eo85⟩ := Kd.R_slice HO_5.out
      subst eo85
      go_wp2_with (first | ((with_reducible refine gate_callee (f := 26) rfl ?_); refine goesL_ (some 54) rfl rfl Try.func26 (by kernel_rfl) rfl #[.slice Ao85 y146.length co85, .agg #[.int .i64 2, .int .i64 5]] rfl (by (try simp only [List.map_toArray, List.map_cons, List.map_nil]); first | done | rfl | (simp only [List.length_drop, List.length_take]; rfl)) ?_; (with_reducible refine (span_Covers.calls _ _ y146 2 5 true _ ?side1 ?side2 A81.out).mono ?_); (case side1 => repeat (first | exact (Kd.R_reads' HO_5.out).2.2 | (with_reducible refine Kd.C_alloc ?_ _) | (with_reducible refine Kd.C_drewN ?_ _) | (with_reducible refine Kd.C_drew ?_))); (case side2 => exact (Kd.R_reads' HO_5.out).2.1); rintro e w86 ⟨rfl, hb⟩; refine ⟨_, rfl, ?_⟩; have n0_ := Aside0.mk (Kd.R_below (rZ HO_1.out) hb); have n1_ := Aside0.mk (Kd.R_below (rZ HO_2.out) hb); have n2_ := Aside0.mk (Kd.R_below (rZ HO_5.out) hb); have n3_ := Aside0.mk (below_step (bZ HB.out) hb); clear HO_1; clear HO_2; clear HO_5; clear HB; have HO_1 := n0_; have HO_2 := n1_; have HO_5 := n2_; have HB := n3_; clear n0_ n1_ n2_ n3_; (try clear hb); (try clear hb2); (try clear hk); (try clear hi)) | (go_at_call 26; (with_reducible refine (span_Covers.calls _ _ y146 4 6 true _ ?side1 ?side2 A83.out).mono ?_); (case side1 => repeat (first | exact (Kd.R_reads' HO_5.out).2.2 | (with_reducible refine Kd.C_alloc ?_ _) | (with_reducible refine Kd.C_drewN ?_ _) | (with_reducible refine Kd.C_drew ?_))); (case side2 => exact (Kd.R_reads' HO_5.out).2.1); rintro e w87 ⟨rfl, hb⟩; have n0_ := Aside0.mk (Kd.R_below (rZ HO_1.out) hb); have n1_ := Aside0.mk (Kd.R_below (rZ HO_2.out) hb); have n2_ := Aside0.mk (Kd.R_below (rZ HO_5.out) hb); have n3_ := Aside0.mk (below_step (bZ HB.out) hb); clear HO_1; clear HO_2; clear HO_5; clear HB; have HO_1 := n0_; have HO_2 := n1_; have HO_5 := n2_; have HB := n3_; clear n0_ n1_ n2_ n3_; (try clear hb); (try clear hb2); (try clear hk); (try clear hi)))
      go_meet
      case rel => exact ⟨_, (false), (by first | rfl | (simp; done) | (simp [*]; done)), H', ⟨by have := HJ0.out; first | omega | exact Nat.le_refl _⟩, ⟨by (with_reducible repeat (first | apply Kd.R_alloc | apply Kd.R_drewN | apply Kd.R_drew)); exact Kd.R_mono HO_1.out (fun _ hk => hk.1)⟩, ⟨by (with_reducible repeat (first | apply Kd.R_alloc | apply Kd.R_drewN | apply Kd.R_drew)); exact Kd.R_mono HO_2.out (fun _ hk => hk.1)⟩, ⟨by repeat (first | (with_reducible first | exact HB.out | apply below_alloc | apply pw_below_drewN | apply below_drew1) | exact HB.out)⟩⟩
     ·replace c84 := Bool.eq_false_iff.mpr c84
      subst c84
      have H1 : ((span_Covers.f y146 9 9).bind fun t181 => (l11_sanity.j1 kj0 y134 y137 x6_0 t181)) = some r := by rw [if_neg (show ¬ (false = true) by decide)] at H; exact H
      clear H
      have H := H1
      clear H1
      replace H := Option.bind_eq_some_iff.mp H
      obtain ⟨t181, A880, H⟩ := H
      replace H : (l11_sanity.j1 kj0 y134 y137 x6_0 t181) = some r := H
      have A88 := Aside0.mk A880
      clear A880
      have H' := Aside0.mk H
      clear H
      obtain ⟨Ao89, co89, eo89⟩ := Kd.R_slice HO_5.out
      subst eo89
      go_wp2_with (first | ((with_reducible refine gate_callee (f := 26) rfl ?_); refine goesL_ (some 54) rfl rfl Try.func26 (by kernel_rfl) rfl #[.slice Ao89 y146.length co89, .agg #[.int .i64 2, .int .i64 5]] rfl (by (try simp only [List.map_toArray, List.map_cons, List.map_nil]); first | done | rfl | (simp only [List.length_drop, List.length_take]; rfl)) ?_; (with_reducible refine (span_Covers.calls _ _ y146 2 5 true _ ?side1 ?side2 A81.out).mono ?_); (case side1 => repeat (first | exact (Kd.R_reads' HO_5.out).2.2 | (with_reducible refine Kd.C_alloc ?_ _) | (with_reducible refine Kd.C_drewN ?_ _) | (with_reducible refine Kd.C_drew ?_))); (case side2 => exact (Kd.R_reads' HO_5.out).2.1); rintro e w90 ⟨rfl, hb⟩; refine ⟨_, rfl, ?_⟩; have n0_ := Aside0.mk (Kd.R_below (rZ HO_1.out) hb); have n1_ := Aside0.mk (Kd.R_below (rZ HO_2.out) hb); have n2_ := Aside0.mk (Kd.R_below (rZ HO_5.out) hb); have n3_ := Aside0.mk (below_step (bZ HB.out) hb); clear HO_1; clear HO_2; clear HO_5; clear HB; have HO_1 := n0_; have HO_2 := n1_; have HO_5 := n2_; have HB := n3_; clear n0_ n1_ n2_ n3_; (try clear hb); (try clear hb2); (try clear hk); (try clear hi)) | (go_at_call 26; (with_reducible refine (span_Covers.calls _ _ y146 4 6 false _ ?side1 ?side2 A83.out).mono ?_); (case side1 => repeat (first | exact (Kd.R_reads' HO_5.out).2.2 | (with_reducible refine Kd.C_alloc ?_ _) | (with_reducible refine Kd.C_drewN ?_ _) | (with_reducible refine Kd.C_drew ?_))); (case side2 => exact (Kd.R_reads' HO_5.out).2.1); rintro e w91 ⟨rfl, hb⟩; have n0_ := Aside0.mk (Kd.R_below (rZ HO_1.out) hb); have n1_ := Aside0.mk (Kd.R_below (rZ HO_2.out) hb); have n2_ := Aside0.mk (Kd.R_below (rZ HO_5.out) hb); have n3_ := Aside0.mk (below_step (bZ HB.out) hb); clear HO_1; clear HO_2; clear HO_5; clear HB; have HO_1 := n0_; have HO_2 := n1_; have HO_5 := n2_; have HB := n3_; clear n0_ n1_ n2_ n3_; (try clear hb); (try clear hb2); (try clear hk); (try clear hi)) | (go_at_call 26; (with_reducible refine (span_Covers.calls _ _ y146 9 9 t181 _ ?side1 ?side2 A88.out).mono ?_); (case side1 => repeat (first | exact (Kd.R_reads' HO_5.out).2.2 | (with_reducible refine Kd.C_alloc ?_ _) | (with_reducible refine Kd.C_drewN ?_ _) | (with_reducible refine Kd.C_drew ?_))); (case side2 => exact (Kd.R_reads' HO_5.out).2.1); rintro e w92 ⟨rfl, hb⟩; have n0_ := Aside0.mk (Kd.R_below (rZ HO_1.out) hb); have n1_ := Aside0.mk (Kd.R_below (rZ HO_2.out) hb); have n2_ := Aside0.mk (Kd.R_below (rZ HO_5.out) hb); have n3_ := Aside0.mk (below_step (bZ HB.out) hb); clear HO_1; clear HO_2; clear HO_5; clear HB; have HO_1 := n0_; have HO_2 := n1_; have HO_5 := n2_; have HB := n3_; clear n0_ n1_ n2_ n3_; (try clear hb); (try clear hb2); (try clear hk); (try clear hi)))
      go_meet
      case rel => exact ⟨_, (t181), (by first | rfl | (simp; done) | (simp [*]; done)), H', ⟨by have := HJ0.out; first | omega | exact Nat.le_refl _⟩, ⟨by (with_reducible repeat (first | apply Kd.R_alloc | apply Kd.R_drewN | apply Kd.R_drew)); exact Kd.R_mono HO_1.out (fun _ hk => hk.1)⟩, ⟨by (with_reducible repeat (first | apply Kd.R_alloc | apply Kd.R_drewN | apply Kd.R_drew)); exact Kd.R_mono HO_2.out (fun _ hk => hk.1)⟩, ⟨by repeat (first | (with_reducible first | exact HB.out | apply below_alloc | apply pw_below_drewN | apply below_drew1) | exact HB.out)⟩⟩
    ·replace c82 := Bool.eq_false_iff.mpr c82
     subst c82
     have H1 : (l11_sanity.j1 kj0 y134 y137 x6_0 false) = some r := by rw [if_neg (show ¬ (false = true) by decide)] at H; exact H
     clear H
     have H := H1
     clear H1
     have H' := Aside0.mk H
     clear H
     obtain ⟨Ao93, co93, eo93⟩ := Kd.R_slice HO_5.out
     subst eo93
     go_wp2_with (first | ((with_reducible refine gate_callee (f := 26) rfl ?_); refine goesL_ (some 54) rfl rfl Try.func26 (by kernel_rfl) rfl #[.slice Ao93 y146.length co93, .agg #[.int .i64 2, .int .i64 5]] rfl (by (try simp only [List.map_toArray, List.map_cons, List.map_nil]); first | done | rfl | (simp only [List.length_drop, List.length_take]; rfl)) ?_; (with_reducible refine (span_Covers.calls _ _ y146 2 5 false _ ?side1 ?side2 A81.out).mono ?_); (case side1 => repeat (first | exact (Kd.R_reads' HO_5.out).2.2 | (with_reducible refine Kd.C_alloc ?_ _) | (with_reducible refine Kd.C_drewN ?_ _) | (with_reducible refine Kd.C_drew ?_))); (case side2 => exact (Kd.R_reads' HO_5.out).2.1); rintro e w94 ⟨rfl, hb⟩; refine ⟨_, rfl, ?_⟩; have n0_ := Aside0.mk (Kd.R_below (rZ HO_1.out) hb); have n1_ := Aside0.mk (Kd.R_below (rZ HO_2.out) hb); have n2_ := Aside0.mk (Kd.R_below (rZ HO_5.out) hb); have n3_ := Aside0.mk (below_step (bZ HB.out) hb); clear HO_1; clear HO_2; clear HO_5; clear HB; have HO_1 := n0_; have HO_2 := n1_; have HO_5 := n2_; have HB := n3_; clear n0_ n1_ n2_ n3_; (try clear hb); (try clear hb2); (try clear hk); (try clear hi)))
     go_meet
     case rel => exact ⟨_, (false), (by first | rfl | (simp; done) | (simp [*]; done)), H', ⟨by have := HJ0.out; first | omega | exact Nat.le_refl _⟩, ⟨by (with_reducible repeat (first | apply Kd.R_alloc | apply Kd.R_drewN | apply Kd.R_drew)); exact Kd.R_mono HO_1.out (fun _ hk => hk.1)⟩, ⟨by (with_reducible repeat (first | apply Kd.R_alloc | apply Kd.R_drewN | apply Kd.R_drew)); exact Kd.R_mono HO_2.out (fun _ hk => hk.1)⟩, ⟨by repeat (first | (with_reducible first | exact HB.out | apply below_alloc | apply pw_below_drewN | apply below_drew1) | exact HB.out)⟩⟩
   case rest =>
    clear HC80
    try clear c1
    try clear c2
    try clear p2
    try clear c7
    try clear q7
    try clear c8
    try clear c14
    try clear c15
    try clear c17
    try clear c26
    try clear q70
    try clear c72
    try clear q72
    try clear c82
    try clear c84
    try clear p2
    try clear q7
    try clear q70
    try clear q72
    obtain ⟨kq, x7_79, rfl, HA, HJ79, HO_1, HO_2, HB⟩ := hcut
    cases kq with
    | zero => exact absurd HA.out (by simp [l11_sanity.j1])
    | succ kj79 =>
     have H := HA.out
     clear HA
     simp only [l11_sanity.j1] at H
     by_cases c95 : x6_0 = true
     ·subst c95
      have H1 : (if x7_79 = true then ((span_Has.f y134 4).bind fun t182 => (if t182 = true then ((span_Has.f y134 7).bind fun t183 => (if t183 = true then (some false) else ((span_Total.f kj79 y134).bind fun t184 => (if t184 = 4 then ((span_Valid.f kj79 y137).bind fun t185 => (if t185 = true then ((span_Valid.f kj79 y134).bind fun t186 => (if t186 = true then (some false) else ((span_Valid.f kj79 (([(⟨1, 3⟩ : S24), (⟨3, 4⟩ : S24)] : List (S24)))).bind fun t190 => (some (!t190))))) else (some false))) else (some false))))) else (some false))) else (some false)) = some r := by rw [if_pos rfl] at H; exact H
      clear H
      have H := H1
      clear H1
      by_cases c96 : x7_79 = true
      ·subst c96
       have H1 : ((span_Has.f y134 4).bind fun t182 => (if t182 = true then ((span_Has.f y134 7).bind fun t183 => (if t183 = true then (some false) else ((span_Total.f kj79 y134).bind fun t184 => (if t184 = 4 then ((span_Valid.f kj79 y137).bind fun t185 => (if t185 = true then ((span_Valid.f kj79 y134).bind fun t186 => (if t186 = true then (some false) else ((span_Valid.f kj79 (([(⟨1, 3⟩ : S24), (⟨3, 4⟩ : S24)] : List (S24)))).bind fun t190 => (some (!t190))))) else (some false))) else (some false))))) else (some false))) = some r := by rw [if_pos rfl] at H; exact H
       clear H
       have H := H1
       clear H1
       replace H := Option.bind_eq_some_iff.mp H
       obtain ⟨t182, A970, H⟩ := H
       replace H : (if t182 = true then ((span_Has.f y134 7).bind fun t183 => (if t183 = true then (some false) else ((span_Total.f kj79 y134).bind fun t184 => (if t184 = 4 then ((span_Valid.f kj79 y137).bind fun t185 => (if t185 = true then ((span_Valid.f kj79 y134).bind fun t186 => (if t186 = true then (some false) else ((span_Valid.f kj79 (([(⟨1, 3⟩ : S24), (⟨3, 4⟩ : S24)] : List (S24)))).bind fun t190 => (some (!t190))))) else (some false))) else (some false))))) else (some false)) = some r := H
       have A97 := Aside0.mk A970
       clear A970
       by_cases c98 : t182 = true
       ·subst c98
        have H1 : ((span_Has.f y134 7).bind fun t183 => (if t183 = true then (some false) else ((span_Total.f kj79 y134).bind fun t184 => (if t184 = 4 then ((span_Valid.f kj79 y137).bind fun t185 => (if t185 = true then ((span_Valid.f kj79 y134).bind fun t186 => (if t186 = true then (some false) else ((span_Valid.f kj79 (([(⟨1, 3⟩ : S24), (⟨3, 4⟩ : S24)] : List (S24)))).bind fun t190 => (some (!t190))))) else (some false))) else (some false))))) = some r := by rw [if_pos rfl] at H; exact H
        clear H
        have H := H1
        clear H1
        replace H := Option.bind_eq_some_iff.mp H
        obtain ⟨t183, A990, H⟩ := H
        replace H : (if t183 = true then (some false) else ((span_Total.f kj79 y134).bind fun t184 => (if t184 = 4 then ((span_Valid.f kj79 y137).bind fun t185 => (if t185 = true then ((span_Valid.f kj79 y134).bind fun t186 => (if t186 = true then (some false) else ((span_Valid.f kj79 (([(⟨1, 3⟩ : S24), (⟨3, 4⟩ : S24)] : List (S24)))).bind fun t190 => (some (!t190))))) else (some false))) else (some false)))) = some r := H
        have A99 := Aside0.mk A990
        clear A990
        by_cases c100 : t183 = true
        ·subst c100
         have H1 : (some false) = some r := by rw [if_pos rfl] at H; exact H
         clear H
         have H := H1
         clear H1
         exact absurd ((Option.some.inj H).trans HLAW.out) (by decide)
        ·replace c100 := Bool.eq_false_iff.mpr c100
         subst c100
         have H1 : ((span_Total.f kj79 y134).bind fun t184 => (if t184 = 4 then ((span_Valid.f kj79 y137).bind fun t185 => (if t185 = true then ((span_Valid.f kj79 y134).bind fun t186 => (if t186 = true then (some false) else ((span_Valid.f kj79 (([(⟨1, 3⟩ : S24), (⟨3, 4⟩ : S24)] : List (S24)))).bind fun t190 => (some (!t190))))) else (some false))) else (some false))) = some r := by rw [if_neg (show ¬ (false = true) by decide)] at H; exact H
         clear H
         have H := H1
         clear H1
         replace H := Option.bind_eq_some_iff.mp H
         obtain ⟨t184, A1010, H⟩ := H
         replace H : (if t184 = 4 then ((span_Valid.f kj79 y137).bind fun t185 => (if t185 = true then ((span_Valid.f kj79 y134).bind fun t186 => (if t186 = true then (some false) else ((span_Valid.f kj79 (([(⟨1, 3⟩ : S24), (⟨3, 4⟩ : S24)] : List (S24)))).bind fun t190 => (some (!t190))))) else (some false))) else (some false)) = some r := H
         have A101 := Aside0.mk A1010
         clear A1010
         by_cases c102 : t184 = 4
         ·rw [if_pos c102] at H
          have c102b0 : (t184 == 4) = true := beq_iff_eq.mpr c102
          have c102b1 : (t184 != 4) = false := bne_eq_false_iff_eq.mpr c102
          clear c102
          replace H := Option.bind_eq_some_iff.mp H
          obtain ⟨t185, A1030, H⟩ := H
          replace H : (if t185 = true then ((span_Valid.f kj79 y134).bind fun t186 => (if t186 = true then (some false) else ((span_Valid.f kj79 (([(⟨1, 3⟩ : S24), (⟨3, 4⟩ : S24)] : List (S24)))).bind fun t190 => (some (!t190))))) else (some false)) = some r := H
          have A103 := Aside0.mk A1030
          clear A1030
          by_cases c104 : t185 = true
          ·subst c104
           have H1 : ((span_Valid.f kj79 y134).bind fun t186 => (if t186 = true then (some false) else ((span_Valid.f kj79 (([(⟨1, 3⟩ : S24), (⟨3, 4⟩ : S24)] : List (S24)))).bind fun t190 => (some (!t190))))) = some r := by rw [if_pos rfl] at H; exact H
           clear H
           have H := H1
           clear H1
           replace H := Option.bind_eq_some_iff.mp H
           obtain ⟨t186, A1050, H⟩ := H
           replace H : (if t186 = true then (some false) else ((span_Valid.f kj79 (([(⟨1, 3⟩ : S24), (⟨3, 4⟩ : S24)] : List (S24)))).bind fun t190 => (some (!t190)))) = some r := H
           have A105 := Aside0.mk A1050
           clear A1050
           by_cases c106 : t186 = true
           ·subst c106
            have H1 : (some false) = some r := by rw [if_pos rfl] at H; exact H
            clear H
            have H := H1
            clear H1
            exact absurd ((Option.some.inj H).trans HLAW.out) (by decide)
           ·replace c106 := Bool.eq_false_iff.mpr c106
            subst c106
            have H1 : ((span_Valid.f kj79 (([(⟨1, 3⟩ : S24), (⟨3, 4⟩ : S24)] : List (S24)))).bind fun t190 => (some (!t190))) = some r := by rw [if_neg (show ¬ (false = true) by decide)] at H; exact H
            clear H
            have H := H1
            clear H1
            obtain ⟨y187, hy187⟩ : ∃ y_ : List (S24), y_ = (([(⟨1, 3⟩ : S24), (⟨3, 4⟩ : S24)] : List (S24))) := ⟨_, rfl⟩
            replace H : ((span_Valid.f kj79 y187).bind fun t190 => (some (!t190))) = some r := by first | (rw [hy187]; with_reducible exact H) | (have H2_ := (Option.bind_some _ _).symm.trans H; rw [hy187]; with_reducible exact H2_) | (have H2_ := (Option.bind_some _ _).symm.trans H; with_reducible exact H2_) | with_reducible exact H | (rw [hy187]; exact H) | exact H
            have Ny187 := Aside0.mk hy187
            clear hy187
            replace H := Option.bind_eq_some_iff.mp H
            obtain ⟨t190, A1070, H⟩ := H
            replace H : (some (!t190)) = some r := H
            have A107 := Aside0.mk A1070
            clear A1070
            clear HLAW
            obtain rfl := Option.some.inj H
            obtain ⟨Ao108, co108, eo108⟩ := Kd.R_slice HO_1.out
            subst eo108
            go_wp2_with (first | (go_at_call 24; (with_reducible refine (span_Has.calls _ _ y134 4 true _ ?side1 ?side2 A97.out).mono ?_); (case side1 => repeat (first | exact (Kd.R_reads' HO_1.out).2.2 | (with_reducible refine Kd.C_alloc ?_ _) | (with_reducible refine Kd.C_drewN ?_ _) | (with_reducible refine Kd.C_drew ?_))); (case side2 => exact (Kd.R_reads' HO_1.out).2.1); rintro e w109 ⟨rfl, hb⟩; have n0_ := Aside0.mk (Kd.R_below (rZ HO_1.out) hb); have n1_ := Aside0.mk (Kd.R_below (rZ HO_2.out) hb); have n2_ := Aside0.mk (below_step (bZ HB.out) hb); clear HO_1; clear HO_2; clear HB; have HO_1 := n0_; have HO_2 := n1_; have HB := n2_; clear n0_ n1_ n2_; (try clear hb); (try clear hb2); (try clear hk); (try clear hi)) | (go_at_call 24; (with_reducible refine (span_Has.calls _ _ y134 7 false _ ?side1 ?side2 A99.out).mono ?_); (case side1 => repeat (first | exact (Kd.R_reads' HO_1.out).2.2 | (with_reducible refine Kd.C_alloc ?_ _) | (with_reducible refine Kd.C_drewN ?_ _) | (with_reducible refine Kd.C_drew ?_))); (case side2 => exact (Kd.R_reads' HO_1.out).2.1); rintro e w110 ⟨rfl, hb⟩; have n0_ := Aside0.mk (Kd.R_below (rZ HO_1.out) hb); have n1_ := Aside0.mk (Kd.R_below (rZ HO_2.out) hb); have n2_ := Aside0.mk (below_step (bZ HB.out) hb); clear HO_1; clear HO_2; clear HB; have HO_1 := n0_; have HO_2 := n1_; have HB := n2_; clear n0_ n1_ n2_; (try clear hb); (try clear hb2); (try clear hk); (try clear hi)) | (go_at_call 28; (with_reducible refine (span_Total.calls kj79 _ _ y134 t184 _ ?side1 ?side2 A101.out).mono ?_); (case side1 => repeat (first | exact (Kd.R_reads' HO_1.out).2.2 | (with_reducible refine Kd.C_alloc ?_ _) | (with_reducible refine Kd.C_drewN ?_ _) | (with_reducible refine Kd.C_drew ?_))); (case side2 => exact (Kd.R_reads' HO_1.out).2.1); rintro e w111 ⟨rfl, hb⟩; have n0_ := Aside0.mk (Kd.R_below (rZ HO_1.out) hb); have n1_ := Aside0.mk (Kd.R_below (rZ HO_2.out) hb); have n2_ := Aside0.mk (below_step (bZ HB.out) hb); clear HO_1; clear HO_2; clear HB; have HO_1 := n0_; have HO_2 := n1_; have HB := n2_; clear n0_ n1_ n2_; (try clear hb); (try clear hb2); (try clear hk); (try clear hi); obtain ⟨Ao112, co112, eo112⟩ := Kd.R_slice HO_2.out; subst eo112) | (go_at_call 12; (with_reducible refine (span_Valid.calls kj79 _ _ y137 true _ ?side1 ?side2 A103.out).mono ?_); (case side1 => repeat (first | exact (Kd.R_reads' HO_2.out).2.2 | (with_reducible refine Kd.C_alloc ?_ _) | (with_reducible refine Kd.C_drewN ?_ _) | (with_reducible refine Kd.C_drew ?_))); (case side2 => exact (Kd.R_reads' HO_2.out).2.1); rintro e w113 ⟨rfl, hb⟩; have n0_ := Aside0.mk (Kd.R_below (rZ HO_1.out) hb); have n1_ := Aside0.mk (Kd.R_below (rZ HO_2.out) hb); have n2_ := Aside0.mk (below_step (bZ HB.out) hb); clear HO_1; clear HO_2; clear HB; have HO_1 := n0_; have HO_2 := n1_; have HB := n2_; clear n0_ n1_ n2_; (try clear hb); (try clear hb2); (try clear hk); (try clear hi)) | (go_at_call 12; (with_reducible refine (span_Valid.calls kj79 _ _ y134 false _ ?side1 ?side2 A105.out).mono ?_); (case side1 => repeat (first | exact (Kd.R_reads' HO_1.out).2.2 | (with_reducible refine Kd.C_alloc ?_ _) | (with_reducible refine Kd.C_drewN ?_ _) | (with_reducible refine Kd.C_drew ?_))); (case side2 => exact (Kd.R_reads' HO_1.out).2.1); rintro e w114 ⟨rfl, hb⟩; have n0_ := Aside0.mk (Kd.R_below (rZ HO_1.out) hb); have n1_ := Aside0.mk (Kd.R_below (rZ HO_2.out) hb); have n2_ := Aside0.mk (below_step (bZ HB.out) hb); clear HO_1; clear HO_2; clear HB; have HO_1 := n0_; have HO_2 := n1_; have HB := n2_; clear n0_ n1_ n2_; (try clear hb); (try clear hb2); (try clear hk); (try clear hi)) | ((with_reducible refine gate_dst (N := 96) rfl ?_); (try (refine gate_guard (by rfl) ?_; dsimp only)); refine Kd.R_lit k24 _ 24 ?hg (N := 96) ?hd (xs := ([(⟨1, 3⟩ : S24), (⟨3, 4⟩ : S24)] : List (S24))) (inner := [.int .i64 1, .int .i64 3, .int .i64 3, .int .i64 4]) (ok := fun _ => True) (okp := fun _ => True) ?hr ?hp (fun _ hk => hk) trivial (Below.refl _ _) (Nat.le_refl _) (by simp) ?_; (case hd => rfl); (case hg => rfl); (case hr => first | (go_simp; done) | (go_simp; rfl)); (case hp => exact (Reps.c2 (show Kd.M k24 _ _ _ (⟨1, 3⟩ : S24) [.int .i64 1, .int .i64 3] from (k24_mkM _ _ _ (⟨1, 3⟩ : S24) )) (Reps.c2 (show Kd.M k24 _ _ _ (⟨3, 4⟩ : S24) [.int .i64 3, .int .i64 4] from (k24_mkM _ _ _ (⟨3, 4⟩ : S24) )) (Reps.none _ _)))); intro v188 w115 ho116 hb hg_ hnew_; clear hg_ hnew_; (first | rw [← Ny187.out] at ho116 | (simp only [Int.reduceToNat] at ho116; rw [← Ny187.out] at ho116)); have n0_ := Aside0.mk (Kd.R_elder' (rZ HO_1.out) (Kd.R_base ho116) hb); have n1_ := Aside0.mk (Kd.R_elder' (rZ HO_2.out) (Kd.R_base ho116) hb); have n2_ := Aside0.mk (Kd.R_lower (Kd.R_new' (Kd.R_new' ho116 (Kd.R_lt (rZ HO_1.out))) (Kd.R_lt (rZ HO_2.out))) (below_size (bZ HB.out))); have n3_ := Aside0.mk (below_step (bZ HB.out) hb); clear HO_1; clear HO_2; clear HB; have HO_1 := n0_; have HO_2 := n1_; have HO189 := n2_; have HB := n3_; clear n0_ n1_ n2_ n3_; clear hb ho116; obtain ⟨Ao117, co117, eo117⟩ := Kd.R_slice HO189.out; subst eo117) | (go_at_call 12; (with_reducible refine (span_Valid.calls kj79 _ _ y187 t190 _ ?side1 ?side2 A107.out).mono ?_); (case side1 => repeat (first | exact (Kd.R_reads' HO189.out).2.2 | (with_reducible refine Kd.C_alloc ?_ _) | (with_reducible refine Kd.C_drewN ?_ _) | (with_reducible refine Kd.C_drew ?_))); (case side2 => exact (Kd.R_reads' HO189.out).2.1); rintro e w118 ⟨rfl, hb⟩; have n0_ := Aside0.mk (Kd.R_below (rZ HO_1.out) hb); have n1_ := Aside0.mk (Kd.R_below (rZ HO_2.out) hb); have n2_ := Aside0.mk (Kd.R_below (rZ HO189.out) hb); have n3_ := Aside0.mk (below_step (bZ HB.out) hb); clear HO_1; clear HO_2; clear HO189; clear HB; have HO_1 := n0_; have HO_2 := n1_; have HO189 := n2_; have HB := n3_; clear n0_ n1_ n2_ n3_; (try clear hb); (try clear hb2); (try clear hk); (try clear hi)))
            go_ret
            exact ⟨by first | rfl | (simp [errW_none, errW_some] <;> rfl) | (simp [*, errW_none, errW_some] <;> rfl) | (exfalso; simp_all only [aside0_iff, Option.some.injEq, reduceCtorEq]), by repeat (first | (with_reducible first | exact HB.out | apply below_alloc | apply pw_below_drewN | apply below_drew1) | exact HB.out)⟩
          ·replace c104 := Bool.eq_false_iff.mpr c104
           subst c104
           have H1 : (some false) = some r := by rw [if_neg (show ¬ (false = true) by decide)] at H; exact H
           clear H
           have H := H1
           clear H1
           exact absurd ((Option.some.inj H).trans HLAW.out) (by decide)
         ·rw [if_neg c102] at H
          have c102b0 : (t184 == 4) = false := beq_eq_false_iff_ne.mpr c102
          have c102b1 : (t184 != 4) = true := bne_iff_ne.mpr c102
          exact absurd ((Option.some.inj H).trans HLAW.out) (by decide)
       ·replace c98 := Bool.eq_false_iff.mpr c98
        subst c98
        have H1 : (some false) = some r := by rw [if_neg (show ¬ (false = true) by decide)] at H; exact H
        clear H
        have H := H1
        clear H1
        exact absurd ((Option.some.inj H).trans HLAW.out) (by decide)
      ·replace c96 := Bool.eq_false_iff.mpr c96
       subst c96
       have H1 : (some false) = some r := by rw [if_neg (show ¬ (false = true) by decide)] at H; exact H
       clear H
       have H := H1
       clear H1
       exact absurd ((Option.some.inj H).trans HLAW.out) (by decide)
     ·replace c95 := Bool.eq_false_iff.mpr c95
      subst c95
      have H1 : (some false) = some r := by rw [if_neg (show ¬ (false = true) by decide)] at H; exact H
      clear H
      have H := H1
      clear H1
      exact absurd ((Option.some.inj H).trans HLAW.out) (by decide)

theorem l11_sanity.grow : ∀ j k, LeO (l11_sanity.f k) (l11_sanity.f (k + j))
 | 0, _ => LeO.refl _
 | j + 1, k => fun r h => l11_sanity.mono _ r (l11_sanity.grow j k r h)
theorem l11_sanity.sure (k : Nat) (r : Bool) (h : l11_sanity.f k = some r) : r = true := by
 have h0 : l11_sanity.f 40 = some true := by decide +kernel
 have h1 := l11_sanity.grow 40 k r h
 have h2 := l11_sanity.grow k 40 true h0
 rw [Nat.add_comm 40 k, h1] at h2
 exact Option.some.inj h2
theorem l11_sanity.calls (k : Nat)  (r : Bool) (w : World) (h : l11_sanity.f k  = some r) :
  Calls Try.prog 10 #[] w fun e w' => e = .returned (.bool r) ∧ Below w.heap.size w w' := l11_sanity.callsT k r w (l11_sanity.sure k r h) h

end Go.Proofs.Ytebggajdojdebaa.PS
