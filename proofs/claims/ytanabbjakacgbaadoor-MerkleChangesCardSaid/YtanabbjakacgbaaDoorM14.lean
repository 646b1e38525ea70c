/- Put together by this session's program out of: Ii. -/
import Derived.Test.YtanabbjakacgbaaDoorM13
namespace Go.Proofs.YtanabbjakacgbaaDoor.Sp
open Go.RowKit Go.Proofs.YtanabbjakacgbaaDoorW.PrintWords Go.Proofs.YtanabbjakacgbaaDoorW.PrintLast Go.Proofs.YtanabbjakacgbaaDoorW.PrintMore Go.Proofs.YtanabbjakacgbaaDoor.PM Go.Proofs.YtanabbjakacgbaaDoor.Grow
set_option linter.unusedVariables false
set_option linter.unusedSimpArgs false
set_option maxRecDepth 100000
attribute [local go_sem] Oper.semAt_some
set_option maxHeartbeats 4000000 in
theorem changes_calls (a : List (Int × Int)) (ha : Oct a) (q0 q1 q2 q3 : Int) (hq0 : 0 ≤ q0 ∧ q0 < 256) (hq1 : 0 ≤ q1 ∧ q1 < 256) (hq2 : 0 ≤ q2 ∧ q2 < 256) (hq3 : 0 ≤ q3 ∧ q3 < 256) (A0 : Option Addr) (c0 : Nat) (w : World) (hW : Words w) (hr : kQ.C w A0 a.length a) (hc : a.length ≤ c0) :
    Calls Tryd.prog 9 #[.slice A0 a.length c0, .agg #[.int .u8 q0, .int .u8 q1, .int .u8 q2, .int .u8 q3]] w fun e w' => e = .returned (.bool true) ∧ Below w.heap.size w w' := by
  obtain ⟨QQ, hQQ⟩ : ∃ Q : Array Value, Q = #[.int .u8 q0, .int .u8 q1, .int .u8 q2, .int .u8 q3] := ⟨_, rfl⟩
  obtain ⟨g, hg⟩ : ∃ g, g = w.heap.size := ⟨_, rfl⟩
  obtain ⟨wb, hwb⟩ : ∃ wb, w.alloc (.cells QQ 39) = wb := ⟨_, rfl⟩
  have hb : Below w.heap.size w wb := by rw [← hwb]; exact below_alloc (Below.refl _ _) _
  have hgq : wb.heap[g]? = some (.cells QQ 39 (0, 0)) := by rw [← hwb]; exact h_new hg
  have HB := Aside0.mk (⟨hb, hgq, hW.below hb, Kd.C_below hr hb, hc⟩ : _ ∧ _ ∧ _ ∧ _ ∧ _)
  have HWB := Aside0.mk hwb
  have HG := Aside0.mk hg
  have HA := Aside0.mk ha
  have HQS := Aside0.mk (⟨hq0, hq1, hq2, hq3⟩ : _ ∧ _ ∧ _ ∧ _)
  obtain ⟨l, hl⟩ : ∃ l, madeOf (a.take 12) = l := ⟨_, rfl⟩
  have hll : l.length ≤ 12 := by rw [← hl]; have := made_le (a.take 12); rw [List.length_take] at this; omega
  have hsl : Srt l := by rw [← hl]; exact Srt.made _
  obtain ⟨x, hx⟩ : ∃ x : Lf, (⟨keyB q0, sB q1⟩ : Lf) = x := ⟨_, rfl⟩
  obtain ⟨y, hy⟩ : ∃ y : Lf, (⟨keyB q2, sB q3⟩ : Lf) = y := ⟨_, rfl⟩
  have HXY := Aside0.mk (⟨by rw [← hx], by rw [← hy], by rw [← hx]; exact built_L _ _, by rw [← hy]; exact built_L _ _⟩ : keyB q0 = x.k ∧ keyB q2 = y.k ∧ Tryd.prog.built 33 [(0, .string x.k), (1, .agg (cS (sB q1)))] = some (cL x) ∧ Tryd.prog.built 33 [(0, .string y.k), (1, .agg (cS (sB q3)))] = some (cL y))
  obtain ⟨P, hP⟩ : ∃ P, putOf l x = P := ⟨_, rfl⟩
  obtain ⟨D, hD⟩ : ∃ D, dropOf l x.k = D := ⟨_, rfl⟩
  have hPl : P.length ≤ 100 := by rw [← hP]; have := putOf_len' x hsl; omega
  have hDl : D.length ≤ 100 := by rw [← hD, dropOf]; exact Nat.le_trans (List.length_filter_le _ _) (by omega)
  have HL := Aside0.mk (⟨hl, hsl, hP, hD, by rw [← hP]; exact hsl.put x, by rw [← hD]; exact hsl.drop x.k⟩ : madeOf (a.take 12) = l ∧ Srt l ∧ putOf l x = P ∧ dropOf l x.k = D ∧ Srt P ∧ Srt D)
  have hce : ∀ W : World, W.heap[g]? = some (.cells QQ 39 (0, 0)) → W.cell? ⟨g, 0, none⟩ = some (.int .u8 q0) ∧ W.cell? ⟨g, 1, none⟩ = some (.int .u8 q1) ∧ W.cell? ⟨g, 2, none⟩ = some (.int .u8 q2) ∧ W.cell? ⟨g, 3, none⟩ = some (.int .u8 q3) := fun W h => by
    rw [hQQ] at h
    exact ⟨(cell_of_row W g 0 _ 39 _ h).trans rfl, (cell_of_row W g 1 _ 39 _ h).trans rfl, (cell_of_row W g 2 _ 39 _ h).trans rfl, (cell_of_row W g 3 _ 39 _ h).trans rfl⟩
  have HCE := Aside0.mk hce
  rw [← hQQ]
  clear hce hgq hb hW hr hc ha hl hwb hg hQQ hq0 hq1 hq2 hq3 hsl hx hy hP hD
  go_enter Tryd.func9, Tryd.ntmps9
  go_wp2_with (first
    | (go_at_call 10; rw [HWB.out, ← HG.out]; (with_reducible refine (sanity_calls wb HB.out.2.2.1).mono ?_); rintro e w1 ⟨rfl, hb1⟩; have H1 := Aside0.mk (⟨below_tr HB.out.1 hb1 HB.out.1.size, Kd.C_below HB.out.2.2.2.1 hb1, at_next HB.out.2.1 hb1⟩ : _ ∧ _ ∧ _); clear hb1)
    | (go_at_call 11; (with_reducible refine (Made12_calls a HA.out A0 c0 w1 H1.out.2.1 HB.out.2.2.2.2 l HL.out.1).mono ?_); rintro e w2 ⟨A, c, rfl, hr2, hb2⟩; have H2 : Aside0 (Cg0 w A c l g QQ w2) := Aside0.mk ⟨below_tr H1.out.1 hb2 H1.out.1.size, hr2, at_next H1.out.2.2 hb2⟩; clear hr2 hb2))
  clear H1
  refine start_ (n := 18) (S := fun w' => Below w2.heap.size w2 w') (ds := []) #[false, false, false, false, false, false, false, false, false, false, false, false, false, false, false, false, false, false] (by kernel_rfl) rfl rfl (Below.refl _ _).drew (fun hHeld => ?_)
  refine pure_ (i := 0) (N := some 18) (v := ?_) (a' := ?_) #[true, false, false, false, false, false, false, false, false, false, false, false, false, false, false, false, false, false] rfl rfl (by kernel_rfl) (fun _ _ _ h => h) (Or.inl ⟨by rfl, ?_⟩) ?_ ?_
  rotate_left
  · intro w'
    go_simp
    with_reducible rfl
  rotate_left
  · simp only [Act.put, List.setIfInBounds_toArray, List.set_cons_zero, List.set_cons_succ, i64_w, i32_w]
    rfl
  refine take_ (i := 1) (N := some 19) (v := ?_) (a' := ?_) #[true, true, false, false, false, false, false, false, false, false, false, false, false, false, false, false, false, false] rfl rfl (by kernel_rfl) (fun _ _ _ h => h) (Or.inl ⟨by rfl, ?_⟩) hHeld ?_ ?_
  rotate_left
  · intro w' hS
    have hx := (HCE.out w' (H2.out.next hS).bq).1
    go_simp
    with_reducible rfl
  rotate_left
  · simp only [Act.put, List.setIfInBounds_toArray, List.set_cons_zero, List.set_cons_succ, i64_w, i32_w]
    rfl
  refine pure_ (i := 3) (N := some 21) (v := ?_) (a' := ?_) #[true, true, false, true, false, false, false, false, false, false, false, false, false, false, false, false, false, false] rfl rfl (by kernel_rfl) (fun _ _ _ h => h) (Or.inl ⟨by rfl, ?_⟩) ?_ ?_
  rotate_left
  · intro w'
    go_simp
    with_reducible rfl
  rotate_left
  · simp only [Act.put, List.setIfInBounds_toArray, List.set_cons_zero, List.set_cons_succ, i64_w, i32_w]
    rfl
  refine take_ (i := 4) (N := some 22) (v := ?_) (a' := ?_) #[true, true, false, true, true, false, false, false, false, false, false, false, false, false, false, false, false, false] rfl rfl (by kernel_rfl) (fun _ _ _ h => h) (Or.inl ⟨by rfl, ?_⟩) hHeld ?_ ?_
  rotate_left
  · intro w' hS
    have hx := (HCE.out w' (H2.out.next hS).bq).2.1
    go_simp
    with_reducible rfl
  rotate_left
  · simp only [Act.put, List.setIfInBounds_toArray, List.set_cons_zero, List.set_cons_succ, i64_w, i32_w]
    rfl
  refine pure_ (i := 5) (N := some 23) (v := .agg (cS (sB q1))) (a' := ?_) #[true, true, false, true, true, true, false, false, false, false, false, false, false, false, false, false, false, false] rfl rfl (by kernel_rfl) (fun _ _ _ h => h) (Or.inl ⟨by rfl, fun w' => yield_built 27 _ rfl (cS (sB q1)) [(0, .int .u8 q1)] (by simp only [List.map_toArray, List.map_cons, List.map_nil]; rfl) (built_S1 q1 HQS.out.2.1)⟩) ?_ ?_
  rotate_left
  · simp only [Act.put, List.setIfInBounds_toArray, List.set_cons_zero, List.set_cons_succ, i64_w, i32_w]
    rfl
  refine pure_ (i := 7) (N := some 25) (v := ?_) (a' := ?_) #[true, true, false, true, true, true, false, true, false, false, false, false, false, false, false, false, false, false] rfl rfl (by kernel_rfl) (fun _ _ _ h => h) (Or.inl ⟨by rfl, ?_⟩) ?_ ?_
  rotate_left
  · intro w'
    go_simp
    with_reducible rfl
  rotate_left
  · simp only [Act.put, List.setIfInBounds_toArray, List.set_cons_zero, List.set_cons_succ, i64_w, i32_w]
    rfl
  refine take_ (i := 8) (N := some 26) (v := ?_) (a' := ?_) #[true, true, false, true, true, true, false, true, true, false, false, false, false, false, false, false, false, false] rfl rfl (by kernel_rfl) (fun _ _ _ h => h) (Or.inl ⟨by rfl, ?_⟩) hHeld ?_ ?_
  rotate_left
  · intro w' hS
    have hx := (HCE.out w' (H2.out.next hS).bq).2.2.1
    go_simp
    with_reducible rfl
  rotate_left
  · simp only [Act.put, List.setIfInBounds_toArray, List.set_cons_zero, List.set_cons_succ, i64_w, i32_w]
    rfl
  refine pure_ (i := 10) (N := some 28) (v := ?_) (a' := ?_) #[true, true, false, true, true, true, false, true, true, false, true, false, false, false, false, false, false, false] rfl rfl (by kernel_rfl) (fun _ _ _ h => h) (Or.inl ⟨by rfl, ?_⟩) ?_ ?_
  rotate_left
  · intro w'
    go_simp
    with_reducible rfl
  rotate_left
  · simp only [Act.put, List.setIfInBounds_toArray, List.set_cons_zero, List.set_cons_succ, i64_w, i32_w]
    rfl
  refine take_ (i := 11) (N := some 29) (v := ?_) (a' := ?_) #[true, true, false, true, true, true, false, true, true, false, true, true, false, false, false, false, false, false] rfl rfl (by kernel_rfl) (fun _ _ _ h => h) (Or.inl ⟨by rfl, ?_⟩) hHeld ?_ ?_
  rotate_left
  · intro w' hS
    have hx := (HCE.out w' (H2.out.next hS).bq).2.2.2
    go_simp
    with_reducible rfl
  rotate_left
  · simp only [Act.put, List.setIfInBounds_toArray, List.set_cons_zero, List.set_cons_succ, i64_w, i32_w]
    rfl
  refine pure_ (i := 12) (N := some 30) (v := .agg (cS (sB q3))) (a' := ?_) #[true, true, false, true, true, true, false, true, true, false, true, true, true, false, false, false, false, false] rfl rfl (by kernel_rfl) (fun _ _ _ h => h) (Or.inl ⟨by rfl, fun w' => yield_built 27 _ rfl (cS (sB q3)) [(0, .int .u8 q3)] (by simp only [List.map_toArray, List.map_cons, List.map_nil]; rfl) (built_S1 q3 HQS.out.2.2.2)⟩) ?_ ?_
  rotate_left
  · simp only [Act.put, List.setIfInBounds_toArray, List.set_cons_zero, List.set_cons_succ, i64_w, i32_w]
    rfl
  refine makers4_ (n := 16) (z := 13) (f := 6) (fe := 2) #[true, true, false, true, true, true, false, true, true, false, true, true, true, false, false, false, false, false] #[true, true, true, true, true, true, true, true, true, true, true, true, true, true, true, true, false, false] #[true, true, true, true, true, true, true, true, true, true, true, true, true, false, true, true, false, false] (by kernel_rfl) (fun _ _ _ _ h => h) [18, 19, 20, 21, 22, 23, 24, 25, 26, 27, 28, 29, 30, 31, 7, 8] (by kernel_rfl) (by kernel_rfl) rfl (cgF x y w2.drew.heap.size) (fun i => i == 14 || i == 15) (fun _ h => below_tr hHeld h hHeld.size) (cgF_mono _ _ _) ?hstep ?hz rfl ?hend
  case hstep =>
    intro i o hi hu ho vs w3 hv hb3 hd K hK
    have h1 : vs 1 = .int .u8 q0 := hv 1 (by decide) (by decide)
    have h5 : vs 5 = .agg (cS (sB q1)) := hv 5 (by decide) (by decide)
    have h8 : vs 8 = .int .u8 q2 := hv 8 (by decide) (by decide)
    have h12 : vs 12 = .agg (cS (sB q3)) := hv 12 (by decide) (by decide)
    simp only [fil2, List.zipIdx_cons, List.zipIdx_nil, List.foldl_cons, List.foldl_nil, List.setIfInBounds_toArray, List.set_cons_zero, List.set_cons_succ, Nat.zero_add, Nat.reduceAdd] at hK ⊢
    match i, hi, hu, ho, hK, hd with
    | 2, _, _, ho, hK, hd =>
      obtain rfl : _ = o := Option.some.inj ho
      refine gr_go Tryd.func15 (by kernel_rfl) rfl #[.int .u8 q0] rfl (by simp only [List.map_toArray, List.map_cons, List.map_nil]; rw [← h1]; rfl) ?_
      refine (Key_calls q0 HQS.out.1 w3).mono ?_
      rw [HXY.out.1]
      rintro e w4 ⟨rfl, hb4⟩
      exact ⟨_, rfl, hK _ _ rfl hb4 (fun h => by cases h)⟩
    | 6, _, _, ho, hK, hd =>
      obtain rfl : _ = o := Option.some.inj ho
      have h2 : vs 2 = .string x.k := hd ⟨2, .data⟩ (by simp) rfl (by decide) rfl
      refine gr_val (.agg (cL x)) ?hy6 (hK _ _ rfl (Below.refl _ _) (fun h => by cases h))
      case hy6 => exact yield_built 33 _ rfl (cL x) [(0, .string x.k), (1, .agg (cS (sB q1)))] (by simp only [List.map_toArray, List.map_cons, List.map_nil]; rw [← h2, ← h5]; rfl) HXY.out.2.2.1
    | 9, _, _, ho, hK, hd =>
      obtain rfl : _ = o := Option.some.inj ho
      refine gr_go Tryd.func15 (by kernel_rfl) rfl #[.int .u8 q2] rfl (by simp only [List.map_toArray, List.map_cons, List.map_nil]; rw [← h8]; rfl) ?_
      refine (Key_calls q2 HQS.out.2.2.1 w3).mono ?_
      rw [HXY.out.2.1]
      rintro e w4 ⟨rfl, hb4⟩
      exact ⟨_, rfl, hK _ _ rfl hb4 (fun h => by cases h)⟩
    | 13, _, _, ho, hK, hd =>
      obtain rfl : _ = o := Option.some.inj ho
      have h9 : vs 9 = .string y.k := hd ⟨9, .data⟩ (by simp) rfl (by decide) rfl
      refine gr_val (.agg (cL y)) ?hy13 (hK _ _ rfl (Below.refl _ _) (fun h => by cases h))
      case hy13 => exact yield_built 33 _ rfl (cL y) [(0, .string y.k), (1, .agg (cS (sB q3)))] (by simp only [List.map_toArray, List.map_cons, List.map_nil]; rw [← h9, ← h12]; rfl) HXY.out.2.2.2
    | 14, _, _, ho, hK, hd =>
      obtain rfl : _ = o := Option.some.inj ho
      exact gr_alloc 33 (.agg (cL zL)) rfl zero33 (hK _ _ ⟨_, rfl, hb3.size, h_new rfl⟩ (below_alloc (Below.refl _ _) _) (fun _ b hb => by obtain rfl := Option.some.inj hb; exact ⟨Nat.le_refl _, by rw [size_alloc]; exact Nat.lt_succ_self _⟩))
    | 15, _, _, ho, hK, hd =>
      obtain rfl : _ = o := Option.some.inj ho
      exact gr_alloc 33 (.agg (cL zL)) rfl zero33 (hK _ _ ⟨_, rfl, hb3.size, h_new rfl⟩ (below_alloc (Below.refl _ _) _) (fun _ b hb => by obtain rfl := Option.some.inj hb; exact ⟨Nat.le_refl _, by rw [size_alloc]; exact Nat.lt_succ_self _⟩))
    | 0, _, hu, _, _, _ => exact absurd hu (by decide)
    | 1, _, hu, _, _, _ => exact absurd hu (by decide)
    | 3, _, hu, _, _, _ => exact absurd hu (by decide)
    | 4, _, hu, _, _, _ => exact absurd hu (by decide)
    | 5, _, hu, _, _, _ => exact absurd hu (by decide)
    | 7, _, hu, _, _, _ => exact absurd hu (by decide)
    | 8, _, hu, _, _, _ => exact absurd hu (by decide)
    | 10, _, hu, _, _, _ => exact absurd hu (by decide)
    | 11, _, hu, _, _, _ => exact absurd hu (by decide)
    | 12, _, hu, _, _, _ => exact absurd hu (by decide)
    | _ + 16, hi, _, _, _, _ => exact absurd hi (by omega)
  case hz =>
    intro o ho vs w3 hv hb3 hd
    have h12 : vs 12 = .agg (cS (sB q3)) := hv 12 (by decide) (by decide)
    obtain rfl : _ = o := Option.some.inj ho
    have h9 : vs 9 = .string y.k := hd ⟨9, .data⟩ (by simp) rfl (by decide) rfl
    refine ⟨.agg (cL y), rfl, ?_⟩
    simp only [fil2, List.zipIdx_cons, List.zipIdx_nil, List.foldl_cons, List.foldl_nil, List.setIfInBounds_toArray, List.set_cons_zero, List.set_cons_succ, Nat.zero_add, Nat.reduceAdd]
    exact Or.inl ⟨by rfl, fun w' hS => yield_built 33 _ rfl (cL y) [(0, .string y.k), (1, .agg (cS (sB q3)))] (by simp only [List.map_toArray, List.map_cons, List.map_nil]; rw [← h9, ← h12]; rfl) HXY.out.2.2.2⟩
  case hend =>
    intro vs w7 hv hb7 hF hD
    simp only [fil2, List.zipIdx_cons, List.zipIdx_nil, List.foldl_cons, List.foldl_nil, List.setIfInBounds_toArray, List.set_cons_zero, List.set_cons_succ, Nat.zero_add, Nat.reduceAdd]
    have f6 : vs 6 = .agg (cL x) := hF 6 (by decide) rfl
    have f13 : vs 13 = .agg (cL y) := hF 13 (by decide) rfl
    obtain ⟨b7, f14, B7, h7⟩ : ∃ b, vs 14 = .pointer (some ⟨b, 0, none⟩) ∧ w2.drew.heap.size ≤ b ∧ w7.heap[b]? = some (.cells (cL zL) 33 (0, 0)) := hF 14 (by decide) rfl
    obtain ⟨b8, f15, B8, h8⟩ : ∃ b, vs 15 = .pointer (some ⟨b, 0, none⟩) ∧ w2.drew.heap.size ≤ b ∧ w7.heap[b]? = some (.cells (cL zL) 33 (0, 0)) := hF 15 (by decide) rfl
    have hne : b8 ≠ b7 := fun e => hD 14 15 (by decide) rfl (by decide) rfl (by decide) rfl rfl b7 (by rw [f14]; rfl) (by rw [f15, e]; rfl)
    rw [f6, f13, f14, f15]
    have hHeld := below_tr hHeld hb7 hHeld.size
    have B7 : w2.heap.size ≤ b7 := B7
    have B8 : w2.heap.size ≤ b8 := B8
    clear f6 f13 f14 f15 hF hD hv hb7
    generalize vs 0 = v0
    generalize vs 1 = v1
    generalize vs 2 = v2
    generalize vs 3 = v3
    generalize vs 4 = v4
    generalize vs 5 = v5
    generalize vs 7 = v7
    generalize vs 8 = v8
    generalize vs 9 = v9
    generalize vs 10 = v10
    generalize vs 11 = v11
    generalize vs 12 = v12
    refine one_ (i := 16) (N := none) #[true, true, true, true, true, true, true, true, true, true, true, true, true, true, true, true, true, false] rfl rfl (by kernel_rfl) (by decide) (fun K hK => ?_)
    refine st_row (by rfl) rfl 33 (.tmp 7) (.tmp 24) rfl b7 (cL x) rfl rfl 33 (cL zL) h7 (by rw [cL_size]; kernel_rfl) (by rw [cL_size, cL_size]) (all_one (cL_one _)) ?_
    refine hK.out _ _ (below_setRow hHeld B7) (fun hHeld => ?_)
    clear hK K
    refine one_ (i := 17) (N := none) #[true, true, true, true, true, true, true, true, true, true, true, true, true, true, true, true, true, true] rfl rfl (by kernel_rfl) (by decide) (fun K hK => ?_)
    refine st_row (by rfl) rfl 33 (.tmp 8) (.tmp 31) rfl b8 (cL y) rfl rfl 33 (cL zL) ((setRow_other _ _ _ _ hne).trans h8) (by rw [cL_size]; kernel_rfl) (by rw [cL_size, cL_size]) (all_one (cL_one _)) ?_
    refine hK.out _ _ (below_setRow hHeld B8) (fun hHeld => ?_)
    clear hK K
    refine done_ (by kernel_rfl) ?_
    obtain ⟨wz, hwz⟩ : ∃ W, (w7.setRow b7 (cL x)).setRow b8 (cL y) = W := ⟨_, rfl⟩
    have hz7 : wz.heap[b7]? = some (.cells (cL x) 33 (0, 0)) := by rw [← hwz, setRow_other _ _ _ _ (Ne.symm hne)]; exact setRow_heap _ _ _ _ _ _ h7
    have hz8 : wz.heap[b8]? = some (.cells (cL y) 33 (0, 0)) := by rw [← hwz]; exact setRow_heap _ _ _ _ _ _ ((setRow_other _ _ _ _ hne).trans h8)
    rw [hwz] at hHeld ⊢
    have HZ := Aside0.mk (⟨H2.out.next hHeld, hz7, hz8⟩ : Cg0 w A c l g QQ wz ∧ wz.heap[b7]? = some (.cells (cL x) 33 (0, 0)) ∧ wz.heap[b8]? = some (.cells (cL y) 33 (0, 0)))
    clear hwz hz7 hz8 h7 h8 B7 B8 hne hHeld H2
    go_wp2
    refine start_ (n := 9) (S := fun w' => Below wz.heap.size wz w') (ds := []) #[false, false, false, false, false, false, false, false, false] (by kernel_rfl) rfl rfl (Below.refl _ _).drew (fun hHeld => ?_)
    refine pure_ (i := 0) (N := some 32) (v := ?_) (a' := ?_) #[true, false, false, false, false, false, false, false, false] rfl rfl (by kernel_rfl) (fun _ _ _ h => h) (Or.inl ⟨by rfl, ?_⟩) ?_ ?_
    rotate_left
    · intro w'
      go_simp
      with_reducible rfl
    rotate_left
    · simp only [Act.put, List.setIfInBounds_toArray, List.set_cons_zero, List.set_cons_succ, i64_w, i32_w]
      rfl
    refine take_ (i := 1) (N := some 33) (v := .agg (cL x)) (a' := ?_) #[true, true, false, false, false, false, false, false, false] rfl rfl (by kernel_rfl) (fun _ _ _ h => h) (Or.inl ⟨by rfl, fun w' hS => yield_load _ _ rfl _ rfl (ld_L (at_next HZ.out.2.1 hS) 0)⟩) hHeld ?_ ?_
    rotate_left
    · simp only [Act.put, List.setIfInBounds_toArray, List.set_cons_zero, List.set_cons_succ, i64_w, i32_w]
      rfl
    refine pure_ (i := 3) (N := some 35) (v := ?_) (a' := ?_) #[true, true, false, true, false, false, false, false, false] rfl rfl (by kernel_rfl) (fun _ _ _ h => h) (Or.inl ⟨by rfl, ?_⟩) ?_ ?_
    rotate_left
    · intro w'
      go_simp
      with_reducible rfl
    rotate_left
    · simp only [Act.put, List.setIfInBounds_toArray, List.set_cons_zero, List.set_cons_succ, i64_w, i32_w]
      rfl
    refine pure_ (i := 4) (N := some 36) (v := ?_) (a' := ?_) #[true, true, false, true, true, false, false, false, false] rfl rfl (by kernel_rfl) (fun _ _ _ h => h) (Or.inl ⟨by rfl, ?_⟩) ?_ ?_
    rotate_left
    · intro w'
      go_simp
      with_reducible rfl
    rotate_left
    · simp only [Act.put, List.setIfInBounds_toArray, List.set_cons_zero, List.set_cons_succ, i64_w, i32_w]
      rfl
    refine take_ (i := 5) (N := some 37) (v := ?_) (a' := ?_) #[true, true, false, true, true, true, false, false, false] rfl rfl (by kernel_rfl) (fun _ _ _ h => h) (Or.inl ⟨by rfl, ?_⟩) hHeld ?_ ?_
    rotate_left
    · intro w' hS
      have hx := cell_L0 (at_next HZ.out.2.1 hS)
      go_simp
      with_reducible rfl
    rotate_left
    · simp only [Act.put, List.setIfInBounds_toArray, List.set_cons_zero, List.set_cons_succ, i64_w, i32_w]
      rfl
    refine one_ (i := 2) (N := some 34) #[true, true, true, true, true, true, false, false, false] rfl rfl (by kernel_rfl) (by decide) (fun K hK => ?_)
    refine goes_ Tryd.func31 (by kernel_rfl) rfl #[.slice A l.length c, .agg (cL x)] (by rfl) rfl rfl (by simp only [List.map_toArray, List.map_cons, List.map_nil]; rfl) ?_
    refine (putP_calls l x A c _ (HZ.out.1.next hHeld).rl (by omega) HL.out.2.1 P HL.out.2.2.1).mono ?_
    rintro e wp ⟨Ap, cp, rfl, hrp, hbp⟩
    refine ⟨_, rfl, ?_⟩
    have HP := Aside0.mk hrp
    clear hrp
    refine hK.out _ _ (below_tr hHeld hbp hHeld.size) (fun hHeld => ?_)
    clear hK K
    refine norm_ (a' := ?_) ?_ ?_
    rotate_left
    · show Act.put _ (some 34) _ = _
      simp only [Act.put, List.setIfInBounds_toArray, List.set_cons_zero, List.set_cons_succ, i64_w, i32_w]
      rfl
    refine one_ (i := 6) (N := some 38) #[true, true, true, true, true, true, true, false, false] rfl rfl (by kernel_rfl) (by decide) (fun K hK => ?_)
    refine goes_ Tryd.func32 (by kernel_rfl) rfl #[.slice A l.length c, .string x.k] (by rfl) rfl rfl (by simp only [List.map_toArray, List.map_cons, List.map_nil]; rfl) ?_
    refine (dropP_calls l x.k A c _ (HZ.out.1.next hHeld).rl (by omega) HL.out.2.1 D HL.out.2.2.2.1).mono ?_
    rintro e wd ⟨Ad, cd, rfl, hrd, hbd⟩
    refine ⟨_, rfl, ?_⟩
    have HD := Aside0.mk (And.intro (HP.out.below hbd) hrd)
    clear hrd
    refine hK.out _ _ (below_tr hHeld hbd hHeld.size) (fun hHeld => ?_)
    clear hK K
    refine norm_ (a' := ?_) ?_ ?_
    rotate_left
    · show Act.put _ (some 38) _ = _
      simp only [Act.put, List.setIfInBounds_toArray, List.set_cons_zero, List.set_cons_succ, i64_w, i32_w]
      rfl
    refine pure_ (i := 7) (N := some 9) (v := ?_) (a' := ?_) #[true, true, true, true, true, true, true, true, false] rfl rfl (by kernel_rfl) (fun _ _ _ h => h) (Or.inl ⟨by rfl, ?_⟩) ?_ ?_
    rotate_left
    · intro w'
      go_simp
      with_reducible rfl
    rotate_left
    · simp only [Act.put, List.setIfInBounds_toArray, List.set_cons_zero, List.set_cons_succ, i64_w, i32_w]
      rfl
    refine pure_ (i := 8) (N := some 10) (v := ?_) (a' := ?_) #[true, true, true, true, true, true, true, true, true] rfl rfl (by kernel_rfl) (fun _ _ _ h => h) (Or.inl ⟨by rfl, ?_⟩) ?_ ?_
    rotate_left
    · intro w'
      go_simp
      with_reducible rfl
    rotate_left
    · simp only [Act.put, List.setIfInBounds_toArray, List.set_cons_zero, List.set_cons_succ, i64_w, i32_w]
      rfl
    refine done_ (by kernel_rfl) ?_
    have H4 : Aside0 (CgSt w A Ap Ad c cp cd l P D b7 b8 x y wd) := Aside0.mk ⟨(HZ.out.1.next hHeld).below, (HZ.out.1.next hHeld).rl, HD.out.1, HD.out.2, at_next HZ.out.2.1 hHeld, at_next HZ.out.2.2 hHeld⟩
    clear HZ HP HD hHeld
    go_wp2_with (first
      | (go_at_call 33; (with_reducible refine (valid4P_calls P Ap cp wd H4.out.rp (by omega) HL.out.2.2.2.2.1).mono ?_); rintro e v1 ⟨rfl, hb⟩; have V1 := Aside0.mk (H4.out.next hb); clear hb)
      | (go_at_call 33; (with_reducible refine (valid4P_calls D Ad cd v1 V1.out.rd (by omega) HL.out.2.2.2.2.2).mono ?_); rintro e v2 ⟨rfl, hb⟩; have V2 := Aside0.mk (V1.out.next hb); clear hb)
      | (go_at_call 34; (with_reducible refine (validmP_calls P Ap cp v2 V2.out.rp (by omega) HL.out.2.2.2.2.1).mono ?_); rintro e v3 ⟨rfl, hb⟩; have V3 := Aside0.mk (V2.out.next hb); clear hb)
      | (go_at_call 34; (with_reducible refine (validmP_calls D Ad cd v3 V3.out.rd (by omega) HL.out.2.2.2.2.2).mono ?_); rintro e v4 ⟨rfl, hb⟩; have V4 := Aside0.mk (V3.out.next hb); clear hb)
      | ((with_reducible refine gate_dst (N := 59) rfl ?_); refine wpList_wanted (by rfl) ?_; (refine wpList_loadv rfl 33 _ rfl _ rfl _ (ld_L V4.out.h7 0) ?_))
      | (go_at_call 35; (with_reducible refine (hasP_calls P x Ap cp v4 V4.out.rp (by omega) (by rw [← HL.out.2.2.1]; exact (mem_putOf x HL.out.2.1 x).2 (.inl rfl))).mono ?_); rintro e v5 ⟨rfl, hb⟩; have V5 := Aside0.mk (V4.out.next hb); clear hb))
    clear H4 V1 V2 V3 V4
    go_loopw [11] (fun i wr => ∃ n : Nat, i = .int .i64 (n : Int) ∧ n ≤ l.length ∧ Aside0 (CgSt w A Ap Ad c cp cd l P D b7 b8 x y wr)) (fun i _ => l.length - (intOf i).toNat)
    case atStart => exact ⟨0, by simp, by omega, V5⟩
    case round =>
      clear V5
      obtain ⟨n, rfl, hn, HS⟩ := hrel
      rcases Nat.lt_or_ge n l.length with hn3 | hn3
      · have c5 : ((n : Int) < (l.length : Int)) = True := eq_true (by omega)
        have c5d : ((0 : Int) ≤ (n : Int)) = True := eq_true (by omega)
        have c5n : (n < l.length) = True := eq_true hn3
        obtain ⟨z, hz⟩ : ∃ z, l.getD n zL = z := ⟨_, rfl⟩
        have HM := Aside0.mk (show z ∈ l by rw [← hz]; exact getD_mem hn3)
        obtain ⟨ad, eA, hat⟩ := at_flat HS.out.rl.C zL (n : Int) (by omega) (by omega)
        subst eA
        rw [Int.toNat_natCast, hz] at hat
        have HAT := Aside0.mk hat
        clear hat hz
        go_wp2
        obtain ⟨q, hq⟩ : ∃ q, (z.k.toList == x.k.toList) = q := ⟨_, rfl⟩
        have HQ1 := Aside0.mk hq
        have HQ2 := Aside0.mk (show decide (z.k = x.k) = q by rw [← hq, ba_beq])
        clear hq
        refine start_ (n := 26) (S := fun w' => Below wr.heap.size wr w') (ds := []) #[false, false, false, false, false, false, false, false, false, false, false, false, false, false, false, false, false, false, false, false, false, false, false, false, false, false] (by kernel_rfl) rfl rfl (Below.refl _ _).drew (fun hHeld => ?_)
        refine pure_ (i := 0) (N := some 69) (v := ?_) (a' := ?_) #[true, false, false, false, false, false, false, false, false, false, false, false, false, false, false, false, false, false, false, false, false, false, false, false, false, false] rfl rfl (by kernel_rfl) (fun _ _ _ h => h) (Or.inl ⟨by rfl, ?_⟩) ?_ ?_
        rotate_left
        · intro w'
          go_simp
          with_reducible rfl
        rotate_left
        · simp only [Act.put, List.setIfInBounds_toArray, List.set_cons_zero, List.set_cons_succ, i64_w, i32_w]
          rfl
        refine pure_ (i := 1) (N := some 70) (v := ?_) (a' := ?_) #[true, true, false, false, false, false, false, false, false, false, false, false, false, false, false, false, false, false, false, false, false, false, false, false, false, false] rfl rfl (by kernel_rfl) (fun _ _ _ h => h) (Or.inl ⟨by rfl, ?_⟩) ?_ ?_
        rotate_left
        · intro w'
          go_simp
          with_reducible rfl
        rotate_left
        · simp only [Act.put, List.setIfInBounds_toArray, List.set_cons_zero, List.set_cons_succ, i64_w, i32_w]
          rfl
        refine pure_ (i := 2) (N := some 71) (v := ?_) (a' := ?_) #[true, true, true, false, false, false, false, false, false, false, false, false, false, false, false, false, false, false, false, false, false, false, false, false, false, false] rfl rfl (by kernel_rfl) (fun _ _ _ h => h) (Or.inl ⟨by rfl, ?_⟩) ?_ ?_
        rotate_left
        · intro w'
          go_simp
          with_reducible rfl
        rotate_left
        · simp only [Act.put, List.setIfInBounds_toArray, List.set_cons_zero, List.set_cons_succ, i64_w, i32_w]
          rfl
        refine pure_ (i := 3) (N := some 72) (v := ?_) (a' := ?_) #[true, true, true, true, false, false, false, false, false, false, false, false, false, false, false, false, false, false, false, false, false, false, false, false, false, false] rfl rfl (by kernel_rfl) (fun _ _ _ h => h) (Or.inl ⟨by rfl, ?_⟩) ?_ ?_
        rotate_left
        · intro w'
          go_simp
          with_reducible rfl
        rotate_left
        · simp only [Act.put, List.setIfInBounds_toArray, List.set_cons_zero, List.set_cons_succ, i64_w, i32_w]
          rfl
        refine take_ (i := 4) (N := some 73) (v := ?_) (a' := ?_) #[true, true, true, true, true, false, false, false, false, false, false, false, false, false, false, false, false, false, false, false, false, false, false, false, false, false] rfl rfl (by kernel_rfl) (fun _ _ _ h => h) (Or.inl ⟨by rfl, ?_⟩) hHeld ?_ ?_
        rotate_left
        · intro w' hS
          have hx := (hS.cell (World.block_lt_of_cell? _ _ (at_L0 HAT.out))).trans (at_L0 HAT.out)
          go_simp
          with_reducible rfl
        rotate_left
        · simp only [Act.put, List.setIfInBounds_toArray, List.set_cons_zero, List.set_cons_succ, i64_w, i32_w]
          rfl
        refine pure_ (i := 5) (N := some 74) (v := ?_) (a' := ?_) #[true, true, true, true, true, true, false, false, false, false, false, false, false, false, false, false, false, false, false, false, false, false, false, false, false, false] rfl rfl (by kernel_rfl) (fun _ _ _ h => h) (Or.inl ⟨by rfl, ?_⟩) ?_ ?_
        rotate_left
        · intro w'
          go_simp
          with_reducible rfl
        rotate_left
        · simp only [Act.put, List.setIfInBounds_toArray, List.set_cons_zero, List.set_cons_succ, i64_w, i32_w]
          rfl
        refine take_ (i := 6) (N := some 75) (v := ?_) (a' := ?_) #[true, true, true, true, true, true, true, false, false, false, false, false, false, false, false, false, false, false, false, false, false, false, false, false, false, false] rfl rfl (by kernel_rfl) (fun _ _ _ h => h) (Or.inl ⟨by rfl, ?_⟩) hHeld ?_ ?_
        rotate_left
        · intro w' hS
          have hx := cell_L0 (HS.out.next hS).h7
          go_simp
          with_reducible rfl
        rotate_left
        · simp only [Act.put, List.setIfInBounds_toArray, List.set_cons_zero, List.set_cons_succ, i64_w, i32_w]
          rfl
        refine pure_ (i := 7) (N := some 76) (v := ?_) (a' := ?_) #[true, true, true, true, true, true, true, true, false, false, false, false, false, false, false, false, false, false, false, false, false, false, false, false, false, false] rfl rfl (by kernel_rfl) (fun _ _ _ h => h) (Or.inl ⟨by rfl, ?_⟩) ?_ ?_
        rotate_left
        · intro w'
          go_simp
          rw [HQ1.out]
          try with_reducible rfl
        rotate_left
        · simp only [Act.put, List.setIfInBounds_toArray, List.set_cons_zero, List.set_cons_succ, i64_w, i32_w]
          rfl
        refine pure_ (i := 8) (N := some 77) (v := ?_) (a' := ?_) #[true, true, true, true, true, true, true, true, true, false, false, false, false, false, false, false, false, false, false, false, false, false, false, false, false, false] rfl rfl (by kernel_rfl) (fun _ _ _ h => h) (Or.inl ⟨by rfl, ?_⟩) ?_ ?_
        rotate_left
        · intro w'
          go_simp
          with_reducible rfl
        rotate_left
        · simp only [Act.put, List.setIfInBounds_toArray, List.set_cons_zero, List.set_cons_succ, i64_w, i32_w]
          rfl
        cases q with
        | true =>
          refine pure_ (i := 9) (N := some 78) (v := undef) (a' := ?_) #[true, true, true, true, true, true, true, true, true, true, false, false, false, false, false, false, false, false, false, false, false, false, false, false, false, false] rfl rfl (by kernel_rfl) (fun _ _ _ h => h) (Or.inr ⟨by rfl, rfl⟩) ?_ ?_
          rotate_left
          · simp only [Act.put, List.setIfInBounds_toArray, List.set_cons_zero, List.set_cons_succ, i64_w, i32_w]
            rfl
          refine pure_ (i := 10) (N := some 79) (v := undef) (a' := ?_) #[true, true, true, true, true, true, true, true, true, true, true, false, false, false, false, false, false, false, false, false, false, false, false, false, false, false] rfl rfl (by kernel_rfl) (fun _ _ _ h => h) (Or.inr ⟨by rfl, rfl⟩) ?_ ?_
          rotate_left
          · simp only [Act.put, List.setIfInBounds_toArray, List.set_cons_zero, List.set_cons_succ, i64_w, i32_w]
            rfl
          refine pure_ (i := 11) (N := some 80) (v := undef) (a' := ?_) #[true, true, true, true, true, true, true, true, true, true, true, true, false, false, false, false, false, false, false, false, false, false, false, false, false, false] rfl rfl (by kernel_rfl) (fun _ _ _ h => h) (Or.inr ⟨by rfl, rfl⟩) ?_ ?_
          rotate_left
          · simp only [Act.put, List.setIfInBounds_toArray, List.set_cons_zero, List.set_cons_succ, i64_w, i32_w]
            rfl
          refine pure_ (i := 12) (N := some 81) (v := undef) (a' := ?_) #[true, true, true, true, true, true, true, true, true, true, true, true, true, false, false, false, false, false, false, false, false, false, false, false, false, false] rfl rfl (by kernel_rfl) (fun _ _ _ h => h) (Or.inr ⟨by rfl, rfl⟩) ?_ ?_
          rotate_left
          · simp only [Act.put, List.setIfInBounds_toArray, List.set_cons_zero, List.set_cons_succ, i64_w, i32_w]
            rfl
          refine pure_ (i := 13) (N := some 82) (v := undef) (a' := ?_) #[true, true, true, true, true, true, true, true, true, true, true, true, true, true, false, false, false, false, false, false, false, false, false, false, false, false] rfl rfl (by kernel_rfl) (fun _ _ _ h => h) (Or.inr ⟨by rfl, rfl⟩) ?_ ?_
          rotate_left
          · simp only [Act.put, List.setIfInBounds_toArray, List.set_cons_zero, List.set_cons_succ, i64_w, i32_w]
            rfl
          refine one_ (i := 14) (N := some 83) #[true, true, true, true, true, true, true, true, true, true, true, true, true, true, true, false, false, false, false, false, false, false, false, false, false, false] rfl rfl (by kernel_rfl) (by decide) (fun K hK => ?_)
          refine off_ (by rfl) ?_
          refine hK.out _ _ hHeld (fun hHeld => ?_)
          clear hK K
          refine norm_ (a' := ?_) ?_ ?_
          rotate_left
          · show Act.put _ (some 83) _ = _
            simp only [Act.put, List.setIfInBounds_toArray, List.set_cons_zero, List.set_cons_succ, i64_w, i32_w]
            rfl
          refine pure_ (i := 15) (N := some 84) (v := undef) (a' := ?_) #[true, true, true, true, true, true, true, true, true, true, true, true, true, true, true, true, false, false, false, false, false, false, false, false, false, false] rfl rfl (by kernel_rfl) (fun _ _ _ h => h) (Or.inr ⟨by rfl, rfl⟩) ?_ ?_
          rotate_left
          · simp only [Act.put, List.setIfInBounds_toArray, List.set_cons_zero, List.set_cons_succ, i64_w, i32_w]
            rfl
          refine pure_ (i := 16) (N := some 85) (v := undef) (a' := ?_) #[true, true, true, true, true, true, true, true, true, true, true, true, true, true, true, true, true, false, false, false, false, false, false, false, false, false] rfl rfl (by kernel_rfl) (fun _ _ _ h => h) (Or.inr ⟨by rfl, rfl⟩) ?_ ?_
          rotate_left
          · simp only [Act.put, List.setIfInBounds_toArray, List.set_cons_zero, List.set_cons_succ, i64_w, i32_w]
            rfl
          refine pure_ (i := 17) (N := some 86) (v := undef) (a' := ?_) #[true, true, true, true, true, true, true, true, true, true, true, true, true, true, true, true, true, true, false, false, false, false, false, false, false, false] rfl rfl (by kernel_rfl) (fun _ _ _ h => h) (Or.inr ⟨by rfl, rfl⟩) ?_ ?_
          rotate_left
          · simp only [Act.put, List.setIfInBounds_toArray, List.set_cons_zero, List.set_cons_succ, i64_w, i32_w]
            rfl
          refine pure_ (i := 18) (N := some 87) (v := undef) (a' := ?_) #[true, true, true, true, true, true, true, true, true, true, true, true, true, true, true, true, true, true, true, false, false, false, false, false, false, false] rfl rfl (by kernel_rfl) (fun _ _ _ h => h) (Or.inr ⟨by rfl, rfl⟩) ?_ ?_
          rotate_left
          · simp only [Act.put, List.setIfInBounds_toArray, List.set_cons_zero, List.set_cons_succ, i64_w, i32_w]
            rfl
          refine pure_ (i := 19) (N := some 88) (v := undef) (a' := ?_) #[true, true, true, true, true, true, true, true, true, true, true, true, true, true, true, true, true, true, true, true, false, false, false, false, false, false] rfl rfl (by kernel_rfl) (fun _ _ _ h => h) (Or.inr ⟨by rfl, rfl⟩) ?_ ?_
          rotate_left
          · simp only [Act.put, List.setIfInBounds_toArray, List.set_cons_zero, List.set_cons_succ, i64_w, i32_w]
            rfl
          refine pure_ (i := 20) (N := some 89) (v := undef) (a' := ?_) #[true, true, true, true, true, true, true, true, true, true, true, true, true, true, true, true, true, true, true, true, true, false, false, false, false, false] rfl rfl (by kernel_rfl) (fun _ _ _ h => h) (Or.inr ⟨by rfl, rfl⟩) ?_ ?_
          rotate_left
          · simp only [Act.put, List.setIfInBounds_toArray, List.set_cons_zero, List.set_cons_succ, i64_w, i32_w]
            rfl
          refine pure_ (i := 21) (N := some 90) (v := undef) (a' := ?_) #[true, true, true, true, true, true, true, true, true, true, true, true, true, true, true, true, true, true, true, true, true, true, false, false, false, false] rfl rfl (by kernel_rfl) (fun _ _ _ h => h) (Or.inr ⟨by rfl, rfl⟩) ?_ ?_
          rotate_left
          · simp only [Act.put, List.setIfInBounds_toArray, List.set_cons_zero, List.set_cons_succ, i64_w, i32_w]
            rfl
          refine one_ (i := 22) (N := some 91) #[true, true, true, true, true, true, true, true, true, true, true, true, true, true, true, true, true, true, true, true, true, true, true, false, false, false] rfl rfl (by kernel_rfl) (by decide) (fun K hK => ?_)
          refine off_ (by rfl) ?_
          refine hK.out _ _ hHeld (fun hHeld => ?_)
          clear hK K
          refine norm_ (a' := ?_) ?_ ?_
          rotate_left
          · show Act.put _ (some 91) _ = _
            simp only [Act.put, List.setIfInBounds_toArray, List.set_cons_zero, List.set_cons_succ, i64_w, i32_w]
            rfl
          refine pure_ (i := 23) (N := some 92) (v := undef) (a' := ?_) #[true, true, true, true, true, true, true, true, true, true, true, true, true, true, true, true, true, true, true, true, true, true, true, true, false, false] rfl rfl (by kernel_rfl) (fun _ _ _ h => h) (Or.inr ⟨by rfl, rfl⟩) ?_ ?_
          rotate_left
          · simp only [Act.put, List.setIfInBounds_toArray, List.set_cons_zero, List.set_cons_succ, i64_w, i32_w]
            rfl
          refine pure_ (i := 24) (N := some 93) (v := undef) (a' := ?_) #[true, true, true, true, true, true, true, true, true, true, true, true, true, true, true, true, true, true, true, true, true, true, true, true, true, false] rfl rfl (by kernel_rfl) (fun _ _ _ h => h) (Or.inr ⟨by rfl, rfl⟩) ?_ ?_
          rotate_left
          · simp only [Act.put, List.setIfInBounds_toArray, List.set_cons_zero, List.set_cons_succ, i64_w, i32_w]
            rfl
          refine pure_ (i := 25) (N := some 94) (v := ?_) (a' := ?_) #[true, true, true, true, true, true, true, true, true, true, true, true, true, true, true, true, true, true, true, true, true, true, true, true, true, true] rfl rfl (by kernel_rfl) (fun _ _ _ h => h) (Or.inl ⟨by rfl, ?_⟩) ?_ ?_
          rotate_left
          · intro w'
            go_simp
            with_reducible rfl
          rotate_left
          · simp only [Act.put, List.setIfInBounds_toArray, List.set_cons_zero, List.set_cons_succ, i64_w, i32_w]
            rfl
          refine done_ (by kernel_rfl) ?_
          have HQ := Aside0.mk (HS.out.next hHeld)
          clear hHeld
          as_aux_lemma =>
            go_wp2
            exact ⟨⟨n + 1, by simp, by omega, HQ⟩, by simp [intOf]; omega⟩
        | false =>
          have hne : ¬ z.k = x.k := of_decide_eq_false HQ2.out
          have HNE := Aside0.mk hne
          clear hne
          refine pure_ (i := 9) (N := some 78) (v := ?_) (a' := ?_) #[true, true, true, true, true, true, true, true, true, true, false, false, false, false, false, false, false, false, false, false, false, false, false, false, false, false] rfl rfl (by kernel_rfl) (fun _ _ _ h => h) (Or.inl ⟨by rfl, ?_⟩) ?_ ?_
          rotate_left
          · intro w'
            go_simp
            with_reducible rfl
          rotate_left
          · simp only [Act.put, List.setIfInBounds_toArray, List.set_cons_zero, List.set_cons_succ, i64_w, i32_w]
            rfl
          refine pure_ (i := 10) (N := some 79) (v := ?_) (a' := ?_) #[true, true, true, true, true, true, true, true, true, true, true, false, false, false, false, false, false, false, false, false, false, false, false, false, false, false] rfl rfl (by kernel_rfl) (fun _ _ _ h => h) (Or.inl ⟨by rfl, ?_⟩) ?_ ?_
          rotate_left
          · intro w'
            go_simp
            with_reducible rfl
          rotate_left
          · simp only [Act.put, List.setIfInBounds_toArray, List.set_cons_zero, List.set_cons_succ, i64_w, i32_w]
            rfl
          refine pure_ (i := 11) (N := some 80) (v := ?_) (a' := ?_) #[true, true, true, true, true, true, true, true, true, true, true, true, false, false, false, false, false, false, false, false, false, false, false, false, false, false] rfl rfl (by kernel_rfl) (fun _ _ _ h => h) (Or.inl ⟨by rfl, ?_⟩) ?_ ?_
          rotate_left
          · intro w'
            go_simp
            with_reducible rfl
          rotate_left
          · simp only [Act.put, List.setIfInBounds_toArray, List.set_cons_zero, List.set_cons_succ, i64_w, i32_w]
            rfl
          refine pure_ (i := 12) (N := some 81) (v := ?_) (a' := ?_) #[true, true, true, true, true, true, true, true, true, true, true, true, true, false, false, false, false, false, false, false, false, false, false, false, false, false] rfl rfl (by kernel_rfl) (fun _ _ _ h => h) (Or.inl ⟨by rfl, ?_⟩) ?_ ?_
          rotate_left
          · intro w'
            go_simp
            with_reducible rfl
          rotate_left
          · simp only [Act.put, List.setIfInBounds_toArray, List.set_cons_zero, List.set_cons_succ, i64_w, i32_w]
            rfl
          refine take_ (i := 13) (N := some 82) (v := .agg (cL z)) (a' := ?_) #[true, true, true, true, true, true, true, true, true, true, true, true, true, true, false, false, false, false, false, false, false, false, false, false, false, false] rfl rfl (by kernel_rfl) (fun _ _ _ h => h) (Or.inl ⟨by rfl, fun w' hS => yield_load _ _ rfl _ rfl (le_L HAT.out hS 0)⟩) hHeld ?_ ?_
          rotate_left
          · simp only [Act.put, List.setIfInBounds_toArray, List.set_cons_zero, List.set_cons_succ, i64_w, i32_w]
            rfl
          refine one_ (i := 14) (N := some 83) #[true, true, true, true, true, true, true, true, true, true, true, true, true, true, true, false, false, false, false, false, false, false, false, false, false, false] rfl rfl (by kernel_rfl) (by decide) (fun K hK => ?_)
          refine goes_ Tryd.func35 (by kernel_rfl) rfl #[.slice Ap P.length cp, .agg (cL z)] (by rfl) rfl rfl (by simp only [List.map_toArray, List.map_cons, List.map_nil]; rfl) ?_
          refine (hasP_calls P z Ap cp _ (HS.out.next hHeld).rp (by omega) (by rw [← HL.out.2.2.1]; exact (mem_putOf x HL.out.2.1 z).2 (.inr ⟨HM.out, HNE.out⟩))).mono ?_
          rintro e h1 ⟨rfl, hb1⟩
          refine ⟨_, rfl, ?_⟩
          refine hK.out _ _ (below_tr hHeld hb1 hHeld.size) (fun hHeld => ?_)
          clear hK K
          refine norm_ (a' := ?_) ?_ ?_
          rotate_left
          · show Act.put _ (some 83) _ = _
            simp only [Act.put, List.setIfInBounds_toArray, List.set_cons_zero, List.set_cons_succ, i64_w, i32_w]
            rfl
          refine pure_ (i := 15) (N := some 84) (v := ?_) (a' := ?_) #[true, true, true, true, true, true, true, true, true, true, true, true, true, true, true, true, false, false, false, false, false, false, false, false, false, false] rfl rfl (by kernel_rfl) (fun _ _ _ h => h) (Or.inl ⟨by rfl, ?_⟩) ?_ ?_
          rotate_left
          · intro w'
            go_simp
            with_reducible rfl
          rotate_left
          · simp only [Act.put, List.setIfInBounds_toArray, List.set_cons_zero, List.set_cons_succ, i64_w, i32_w]
            rfl
          refine pure_ (i := 16) (N := some 85) (v := ?_) (a' := ?_) #[true, true, true, true, true, true, true, true, true, true, true, true, true, true, true, true, true, false, false, false, false, false, false, false, false, false] rfl rfl (by kernel_rfl) (fun _ _ _ h => h) (Or.inl ⟨by rfl, ?_⟩) ?_ ?_
          rotate_left
          · intro w'
            go_simp
            with_reducible rfl
          rotate_left
          · simp only [Act.put, List.setIfInBounds_toArray, List.set_cons_zero, List.set_cons_succ, i64_w, i32_w]
            rfl
          refine pure_ (i := 17) (N := some 86) (v := ?_) (a' := ?_) #[true, true, true, true, true, true, true, true, true, true, true, true, true, true, true, true, true, true, false, false, false, false, false, false, false, false] rfl rfl (by kernel_rfl) (fun _ _ _ h => h) (Or.inl ⟨by rfl, ?_⟩) ?_ ?_
          rotate_left
          · intro w'
            go_simp
            with_reducible rfl
          rotate_left
          · simp only [Act.put, List.setIfInBounds_toArray, List.set_cons_zero, List.set_cons_succ, i64_w, i32_w]
            rfl
          refine pure_ (i := 18) (N := some 87) (v := ?_) (a' := ?_) #[true, true, true, true, true, true, true, true, true, true, true, true, true, true, true, true, true, true, true, false, false, false, false, false, false, false] rfl rfl (by kernel_rfl) (fun _ _ _ h => h) (Or.inl ⟨by rfl, ?_⟩) ?_ ?_
          rotate_left
          · intro w'
            go_simp
            with_reducible rfl
          rotate_left
          · simp only [Act.put, List.setIfInBounds_toArray, List.set_cons_zero, List.set_cons_succ, i64_w, i32_w]
            rfl
          refine pure_ (i := 19) (N := some 88) (v := ?_) (a' := ?_) #[true, true, true, true, true, true, true, true, true, true, true, true, true, true, true, true, true, true, true, true, false, false, false, false, false, false] rfl rfl (by kernel_rfl) (fun _ _ _ h => h) (Or.inl ⟨by rfl, ?_⟩) ?_ ?_
          rotate_left
          · intro w'
            go_simp
            with_reducible rfl
          rotate_left
          · simp only [Act.put, List.setIfInBounds_toArray, List.set_cons_zero, List.set_cons_succ, i64_w, i32_w]
            rfl
          refine pure_ (i := 20) (N := some 89) (v := ?_) (a' := ?_) #[true, true, true, true, true, true, true, true, true, true, true, true, true, true, true, true, true, true, true, true, true, false, false, false, false, false] rfl rfl (by kernel_rfl) (fun _ _ _ h => h) (Or.inl ⟨by rfl, ?_⟩) ?_ ?_
          rotate_left
          · intro w'
            go_simp
            with_reducible rfl
          rotate_left
          · simp only [Act.put, List.setIfInBounds_toArray, List.set_cons_zero, List.set_cons_succ, i64_w, i32_w]
            rfl
          refine take_ (i := 21) (N := some 90) (v := .agg (cL z)) (a' := ?_) #[true, true, true, true, true, true, true, true, true, true, true, true, true, true, true, true, true, true, true, true, true, true, false, false, false, false] rfl rfl (by kernel_rfl) (fun _ _ _ h => h) (Or.inl ⟨by rfl, fun w' hS => yield_load _ _ rfl _ rfl (le_L HAT.out hS 0)⟩) hHeld ?_ ?_
          rotate_left
          · simp only [Act.put, List.setIfInBounds_toArray, List.set_cons_zero, List.set_cons_succ, i64_w, i32_w]
            rfl
          refine one_ (i := 22) (N := some 91) #[true, true, true, true, true, true, true, true, true, true, true, true, true, true, true, true, true, true, true, true, true, true, true, false, false, false] rfl rfl (by kernel_rfl) (by decide) (fun K hK => ?_)
          refine goes_ Tryd.func35 (by kernel_rfl) rfl #[.slice Ad D.length cd, .agg (cL z)] (by rfl) rfl rfl (by simp only [List.map_toArray, List.map_cons, List.map_nil]; rfl) ?_
          refine (hasP_calls D z Ad cd _ (HS.out.next hHeld).rd (by omega) (by rw [← HL.out.2.2.2.1]; exact (mem_dropOf l x.k z).2 ⟨HM.out, HNE.out⟩)).mono ?_
          rintro e h2 ⟨rfl, hb2⟩
          refine ⟨_, rfl, ?_⟩
          refine hK.out _ _ (below_tr hHeld hb2 hHeld.size) (fun hHeld => ?_)
          clear hK K
          refine norm_ (a' := ?_) ?_ ?_
          rotate_left
          · show Act.put _ (some 91) _ = _
            simp only [Act.put, List.setIfInBounds_toArray, List.set_cons_zero, List.set_cons_succ, i64_w, i32_w]
            rfl
          refine pure_ (i := 23) (N := some 92) (v := ?_) (a' := ?_) #[true, true, true, true, true, true, true, true, true, true, true, true, true, true, true, true, true, true, true, true, true, true, true, true, false, false] rfl rfl (by kernel_rfl) (fun _ _ _ h => h) (Or.inl ⟨by rfl, ?_⟩) ?_ ?_
          rotate_left
          · intro w'
            go_simp
            with_reducible rfl
          rotate_left
          · simp only [Act.put, List.setIfInBounds_toArray, List.set_cons_zero, List.set_cons_succ, i64_w, i32_w]
            rfl
          refine pure_ (i := 24) (N := some 93) (v := ?_) (a' := ?_) #[true, true, true, true, true, true, true, true, true, true, true, true, true, true, true, true, true, true, true, true, true, true, true, true, true, false] rfl rfl (by kernel_rfl) (fun _ _ _ h => h) (Or.inl ⟨by rfl, ?_⟩) ?_ ?_
          rotate_left
          · intro w'
            go_simp
            with_reducible rfl
          rotate_left
          · simp only [Act.put, List.setIfInBounds_toArray, List.set_cons_zero, List.set_cons_succ, i64_w, i32_w]
            rfl
          refine pure_ (i := 25) (N := some 94) (v := ?_) (a' := ?_) #[true, true, true, true, true, true, true, true, true, true, true, true, true, true, true, true, true, true, true, true, true, true, true, true, true, true] rfl rfl (by kernel_rfl) (fun _ _ _ h => h) (Or.inl ⟨by rfl, ?_⟩) ?_ ?_
          rotate_left
          · intro w'
            go_simp
            with_reducible rfl
          rotate_left
          · simp only [Act.put, List.setIfInBounds_toArray, List.set_cons_zero, List.set_cons_succ, i64_w, i32_w]
            rfl
          refine done_ (by kernel_rfl) ?_
          have HQ := Aside0.mk (HS.out.next hHeld)
          clear hHeld
          as_aux_lemma =>
            go_wp2
            exact ⟨⟨n + 1, by simp, by omega, HQ⟩, by simp [intOf]; omega⟩
      · obtain rfl : n = l.length := by omega
        have c5 : ((l.length : Int) < (l.length : Int)) = False := eq_false (by omega)
        go_wp2
        have W2 := Aside0.mk HS.out
        clear HS
        go_loopw [12] (fun i wr => ∃ n : Nat, i = .int .i64 (n : Int) ∧ n ≤ P.length ∧ Aside0 (CgSt w A Ap Ad c cp cd l P D b7 b8 x y wr)) (fun i _ => P.length - (intOf i).toNat)
        case atStart => exact ⟨0, by simp, by omega, W2⟩
        case round =>
          clear W2
          obtain ⟨n, rfl, hn, HS⟩ := hrel
          rcases Nat.lt_or_ge n P.length with hn3 | hn3
          · have c5 : ((n : Int) < (P.length : Int)) = True := eq_true (by omega)
            have c5d : ((0 : Int) ≤ (n : Int)) = True := eq_true (by omega)
            have c5n : (n < P.length) = True := eq_true hn3
            obtain ⟨z, hz⟩ : ∃ z, P.getD n zL = z := ⟨_, rfl⟩
            have HM := Aside0.mk (show z ∈ P by rw [← hz]; exact getD_mem hn3)
            obtain ⟨ad, eA, hat⟩ := at_flat HS.out.rp.C zL (n : Int) (by omega) (by omega)
            subst eA
            rw [Int.toNat_natCast, hz] at hat
            have HAT := Aside0.mk hat
            clear hat hz
            go_wp2
            obtain ⟨q, hq⟩ : ∃ q, decide (z = x) = q := ⟨_, rfl⟩
            have HQ1 := Aside0.mk (fun w => (by rw [eqL, hq] : (Op.equal 33 (.agg (cL z)) (.agg (cL x))).run Tryd.prog w = .ok q w))
            have HQ2 := Aside0.mk hq
            clear hq
            refine start_ (n := 15) (S := fun w' => Below wr.heap.size wr w') (ds := []) #[false, false, false, false, false, false, false, false, false, false, false, false, false, false, false] (by kernel_rfl) rfl rfl (Below.refl _ _).drew (fun hHeld => ?_)
            refine pure_ (i := 0) (N := some 101) (v := ?_) (a' := ?_) #[true, false, false, false, false, false, false, false, false, false, false, false, false, false, false] rfl rfl (by kernel_rfl) (fun _ _ _ h => h) (Or.inl ⟨by rfl, ?_⟩) ?_ ?_
            rotate_left
            · intro w'
              go_simp
              with_reducible rfl
            rotate_left
            · simp only [Act.put, List.setIfInBounds_toArray, List.set_cons_zero, List.set_cons_succ, i64_w, i32_w]
              rfl
            refine pure_ (i := 1) (N := some 102) (v := ?_) (a' := ?_) #[true, true, false, false, false, false, false, false, false, false, false, false, false, false, false] rfl rfl (by kernel_rfl) (fun _ _ _ h => h) (Or.inl ⟨by rfl, ?_⟩) ?_ ?_
            rotate_left
            · intro w'
              go_simp
              with_reducible rfl
            rotate_left
            · simp only [Act.put, List.setIfInBounds_toArray, List.set_cons_zero, List.set_cons_succ, i64_w, i32_w]
              rfl
            refine pure_ (i := 2) (N := some 103) (v := ?_) (a' := ?_) #[true, true, true, false, false, false, false, false, false, false, false, false, false, false, false] rfl rfl (by kernel_rfl) (fun _ _ _ h => h) (Or.inl ⟨by rfl, ?_⟩) ?_ ?_
            rotate_left
            · intro w'
              go_simp
              with_reducible rfl
            rotate_left
            · simp only [Act.put, List.setIfInBounds_toArray, List.set_cons_zero, List.set_cons_succ, i64_w, i32_w]
              rfl
            refine take_ (i := 3) (N := some 104) (v := .agg (cL z)) (a' := ?_) #[true, true, true, true, false, false, false, false, false, false, false, false, false, false, false] rfl rfl (by kernel_rfl) (fun _ _ _ h => h) (Or.inl ⟨by rfl, fun w' hS => yield_load _ _ rfl _ rfl (le_L HAT.out hS 0)⟩) hHeld ?_ ?_
            rotate_left
            · simp only [Act.put, List.setIfInBounds_toArray, List.set_cons_zero, List.set_cons_succ, i64_w, i32_w]
              rfl
            refine take_ (i := 4) (N := some 105) (v := .agg (cL x)) (a' := ?_) #[true, true, true, true, true, false, false, false, false, false, false, false, false, false, false] rfl rfl (by kernel_rfl) (fun _ _ _ h => h) (Or.inl ⟨by rfl, fun w' hS => yield_load _ _ rfl _ rfl (ld_L (HS.out.next hS).h7 0)⟩) hHeld ?_ ?_
            rotate_left
            · simp only [Act.put, List.setIfInBounds_toArray, List.set_cons_zero, List.set_cons_succ, i64_w, i32_w]
              rfl
            refine pure_ (i := 5) (N := some 106) (v := .bool (!q)) (a' := ?_) #[true, true, true, true, true, true, false, false, false, false, false, false, false, false, false] rfl rfl (by kernel_rfl) (fun _ _ _ h => h) (Or.inl ⟨by rfl, fun w' => yield_neq _ _ _ _ rfl _ _ rfl rfl gt_L (HQ1.out w')⟩) ?_ ?_
            rotate_left
            · simp only [Act.put, List.setIfInBounds_toArray, List.set_cons_zero, List.set_cons_succ, i64_w, i32_w]
              rfl
            cases q with
            | true =>
              refine pure_ (i := 6) (N := some 107) (v := ?_) (a' := ?_) #[true, true, true, true, true, true, true, false, false, false, false, false, false, false, false] rfl rfl (by kernel_rfl) (fun _ _ _ h => h) (Or.inl ⟨by rfl, ?_⟩) ?_ ?_
              rotate_left
              · intro w'
                go_simp
                with_reducible rfl
              rotate_left
              · simp only [Act.put, List.setIfInBounds_toArray, List.set_cons_zero, List.set_cons_succ, i64_w, i32_w]
                rfl
              refine pure_ (i := 7) (N := some 108) (v := undef) (a' := ?_) #[true, true, true, true, true, true, true, true, false, false, false, false, false, false, false] rfl rfl (by kernel_rfl) (fun _ _ _ h => h) (Or.inr ⟨by rfl, rfl⟩) ?_ ?_
              rotate_left
              · simp only [Act.put, List.setIfInBounds_toArray, List.set_cons_zero, List.set_cons_succ, i64_w, i32_w]
                rfl
              refine pure_ (i := 8) (N := some 109) (v := undef) (a' := ?_) #[true, true, true, true, true, true, true, true, true, false, false, false, false, false, false] rfl rfl (by kernel_rfl) (fun _ _ _ h => h) (Or.inr ⟨by rfl, rfl⟩) ?_ ?_
              rotate_left
              · simp only [Act.put, List.setIfInBounds_toArray, List.set_cons_zero, List.set_cons_succ, i64_w, i32_w]
                rfl
              refine pure_ (i := 9) (N := some 110) (v := undef) (a' := ?_) #[true, true, true, true, true, true, true, true, true, true, false, false, false, false, false] rfl rfl (by kernel_rfl) (fun _ _ _ h => h) (Or.inr ⟨by rfl, rfl⟩) ?_ ?_
              rotate_left
              · simp only [Act.put, List.setIfInBounds_toArray, List.set_cons_zero, List.set_cons_succ, i64_w, i32_w]
                rfl
              refine pure_ (i := 10) (N := some 111) (v := undef) (a' := ?_) #[true, true, true, true, true, true, true, true, true, true, true, false, false, false, false] rfl rfl (by kernel_rfl) (fun _ _ _ h => h) (Or.inr ⟨by rfl, rfl⟩) ?_ ?_
              rotate_left
              · simp only [Act.put, List.setIfInBounds_toArray, List.set_cons_zero, List.set_cons_succ, i64_w, i32_w]
                rfl
              refine pure_ (i := 11) (N := some 112) (v := undef) (a' := ?_) #[true, true, true, true, true, true, true, true, true, true, true, true, false, false, false] rfl rfl (by kernel_rfl) (fun _ _ _ h => h) (Or.inr ⟨by rfl, rfl⟩) ?_ ?_
              rotate_left
              · simp only [Act.put, List.setIfInBounds_toArray, List.set_cons_zero, List.set_cons_succ, i64_w, i32_w]
                rfl
              refine one_ (i := 12) (N := some 113) #[true, true, true, true, true, true, true, true, true, true, true, true, true, false, false] rfl rfl (by kernel_rfl) (by decide) (fun K hK => ?_)
              refine off_ (by rfl) ?_
              refine hK.out _ _ hHeld (fun hHeld => ?_)
              clear hK K
              refine norm_ (a' := ?_) ?_ ?_
              rotate_left
              · show Act.put _ (some 113) _ = _
                simp only [Act.put, List.setIfInBounds_toArray, List.set_cons_zero, List.set_cons_succ, i64_w, i32_w]
                rfl
              refine pure_ (i := 13) (N := some 114) (v := undef) (a' := ?_) #[true, true, true, true, true, true, true, true, true, true, true, true, true, true, false] rfl rfl (by kernel_rfl) (fun _ _ _ h => h) (Or.inr ⟨by rfl, rfl⟩) ?_ ?_
              rotate_left
              · simp only [Act.put, List.setIfInBounds_toArray, List.set_cons_zero, List.set_cons_succ, i64_w, i32_w]
                rfl
              refine pure_ (i := 14) (N := some 115) (v := ?_) (a' := ?_) #[true, true, true, true, true, true, true, true, true, true, true, true, true, true, true] rfl rfl (by kernel_rfl) (fun _ _ _ h => h) (Or.inl ⟨by rfl, ?_⟩) ?_ ?_
              rotate_left
              · intro w'
                go_simp
                with_reducible rfl
              rotate_left
              · simp only [Act.put, List.setIfInBounds_toArray, List.set_cons_zero, List.set_cons_succ, i64_w, i32_w]
                rfl
              refine done_ (by kernel_rfl) ?_
              have HQ := Aside0.mk (HS.out.next hHeld)
              clear hHeld
              as_aux_lemma =>
                go_wp2
                exact ⟨⟨n + 1, by simp, by omega, HQ⟩, by simp [intOf]; omega⟩
            | false =>
              have hne : ¬ z = x := of_decide_eq_false HQ2.out
              have HNE := Aside0.mk hne
              clear hne
              refine pure_ (i := 6) (N := some 107) (v := ?_) (a' := ?_) #[true, true, true, true, true, true, true, false, false, false, false, false, false, false, false] rfl rfl (by kernel_rfl) (fun _ _ _ h => h) (Or.inl ⟨by rfl, ?_⟩) ?_ ?_
              rotate_left
              · intro w'
                go_simp
                with_reducible rfl
              rotate_left
              · simp only [Act.put, List.setIfInBounds_toArray, List.set_cons_zero, List.set_cons_succ, i64_w, i32_w]
                rfl
              refine pure_ (i := 7) (N := some 108) (v := ?_) (a' := ?_) #[true, true, true, true, true, true, true, true, false, false, false, false, false, false, false] rfl rfl (by kernel_rfl) (fun _ _ _ h => h) (Or.inl ⟨by rfl, ?_⟩) ?_ ?_
              rotate_left
              · intro w'
                go_simp
                with_reducible rfl
              rotate_left
              · simp only [Act.put, List.setIfInBounds_toArray, List.set_cons_zero, List.set_cons_succ, i64_w, i32_w]
                rfl
              refine pure_ (i := 8) (N := some 109) (v := ?_) (a' := ?_) #[true, true, true, true, true, true, true, true, true, false, false, false, false, false, false] rfl rfl (by kernel_rfl) (fun _ _ _ h => h) (Or.inl ⟨by rfl, ?_⟩) ?_ ?_
              rotate_left
              · intro w'
                go_simp
                with_reducible rfl
              rotate_left
              · simp only [Act.put, List.setIfInBounds_toArray, List.set_cons_zero, List.set_cons_succ, i64_w, i32_w]
                rfl
              refine pure_ (i := 9) (N := some 110) (v := ?_) (a' := ?_) #[true, true, true, true, true, true, true, true, true, true, false, false, false, false, false] rfl rfl (by kernel_rfl) (fun _ _ _ h => h) (Or.inl ⟨by rfl, ?_⟩) ?_ ?_
              rotate_left
              · intro w'
                go_simp
                with_reducible rfl
              rotate_left
              · simp only [Act.put, List.setIfInBounds_toArray, List.set_cons_zero, List.set_cons_succ, i64_w, i32_w]
                rfl
              refine pure_ (i := 10) (N := some 111) (v := ?_) (a' := ?_) #[true, true, true, true, true, true, true, true, true, true, true, false, false, false, false] rfl rfl (by kernel_rfl) (fun _ _ _ h => h) (Or.inl ⟨by rfl, ?_⟩) ?_ ?_
              rotate_left
              · intro w'
                go_simp
                with_reducible rfl
              rotate_left
              · simp only [Act.put, List.setIfInBounds_toArray, List.set_cons_zero, List.set_cons_succ, i64_w, i32_w]
                rfl
              refine take_ (i := 11) (N := some 112) (v := .agg (cL z)) (a' := ?_) #[true, true, true, true, true, true, true, true, true, true, true, true, false, false, false] rfl rfl (by kernel_rfl) (fun _ _ _ h => h) (Or.inl ⟨by rfl, fun w' hS => yield_load _ _ rfl _ rfl (le_L HAT.out hS 0)⟩) hHeld ?_ ?_
              rotate_left
              · simp only [Act.put, List.setIfInBounds_toArray, List.set_cons_zero, List.set_cons_succ, i64_w, i32_w]
                rfl
              refine one_ (i := 12) (N := some 113) #[true, true, true, true, true, true, true, true, true, true, true, true, true, false, false] rfl rfl (by kernel_rfl) (by decide) (fun K hK => ?_)
              refine goes_ Tryd.func35 (by kernel_rfl) rfl #[.slice A l.length c, .agg (cL z)] (by rfl) rfl rfl (by simp only [List.map_toArray, List.map_cons, List.map_nil]; rfl) ?_
              refine (hasP_calls l z A c _ (HS.out.next hHeld).rl (by omega) (by have h := HM.out; rw [← HL.out.2.2.1] at h; exact ((mem_putOf x HL.out.2.1 z).1 h).elim (fun e => absurd e HNE.out) (·.1))).mono ?_
              rintro e h1 ⟨rfl, hb1⟩
              refine ⟨_, rfl, ?_⟩
              refine hK.out _ _ (below_tr hHeld hb1 hHeld.size) (fun hHeld => ?_)
              clear hK K
              refine norm_ (a' := ?_) ?_ ?_
              rotate_left
              · show Act.put _ (some 113) _ = _
                simp only [Act.put, List.setIfInBounds_toArray, List.set_cons_zero, List.set_cons_succ, i64_w, i32_w]
                rfl
              refine pure_ (i := 13) (N := some 114) (v := ?_) (a' := ?_) #[true, true, true, true, true, true, true, true, true, true, true, true, true, true, false] rfl rfl (by kernel_rfl) (fun _ _ _ h => h) (Or.inl ⟨by rfl, ?_⟩) ?_ ?_
              rotate_left
              · intro w'
                go_simp
                with_reducible rfl
              rotate_left
              · simp only [Act.put, List.setIfInBounds_toArray, List.set_cons_zero, List.set_cons_succ, i64_w, i32_w]
                rfl
              refine pure_ (i := 14) (N := some 115) (v := ?_) (a' := ?_) #[true, true, true, true, true, true, true, true, true, true, true, true, true, true, true] rfl rfl (by kernel_rfl) (fun _ _ _ h => h) (Or.inl ⟨by rfl, ?_⟩) ?_ ?_
              rotate_left
              · intro w'
                go_simp
                with_reducible rfl
              rotate_left
              · simp only [Act.put, List.setIfInBounds_toArray, List.set_cons_zero, List.set_cons_succ, i64_w, i32_w]
                rfl
              refine done_ (by kernel_rfl) ?_
              have HQ := Aside0.mk (HS.out.next hHeld)
              clear hHeld
              as_aux_lemma =>
                go_wp2
                exact ⟨⟨n + 1, by simp, by omega, HQ⟩, by simp [intOf]; omega⟩
          · obtain rfl : n = P.length := by omega
            have c5 : ((P.length : Int) < (P.length : Int)) = False := eq_false (by omega)
            go_wp2
            have W3 := Aside0.mk HS.out
            clear HS
            go_loopw [13] (fun i wr => ∃ n : Nat, i = .int .i64 (n : Int) ∧ n ≤ D.length ∧ Aside0 (CgSt w A Ap Ad c cp cd l P D b7 b8 x y wr)) (fun i _ => D.length - (intOf i).toNat)
            case atStart => exact ⟨0, by simp, by omega, W3⟩
            case round =>
              clear W3
              obtain ⟨n, rfl, hn, HS⟩ := hrel
              rcases Nat.lt_or_ge n D.length with hn3 | hn3
              · have c5 : ((n : Int) < (D.length : Int)) = True := eq_true (by omega)
                have c5d : ((0 : Int) ≤ (n : Int)) = True := eq_true (by omega)
                have c5n : (n < D.length) = True := eq_true hn3
                obtain ⟨z, hz⟩ : ∃ z, D.getD n zL = z := ⟨_, rfl⟩
                have HM := Aside0.mk (show z ∈ D by rw [← hz]; exact getD_mem hn3)
                obtain ⟨ad, eA, hat⟩ := at_flat HS.out.rd.C zL (n : Int) (by omega) (by omega)
                subst eA
                rw [Int.toNat_natCast, hz] at hat
                have HAT := Aside0.mk hat
                clear hat hz
                go_wp2
                have hne : ¬ z.k = x.k := by have h := HM.out; rw [← HL.out.2.2.2.1] at h; exact ((mem_dropOf l x.k z).1 h).2
                have HQ1 := Aside0.mk (show (z.k.toList == x.k.toList) = false by rw [ba_beq]; exact decide_eq_false hne)
                clear hne
                refine start_ (n := 17) (S := fun w' => Below wr.heap.size wr w') (ds := []) #[false, false, false, false, false, false, false, false, false, false, false, false, false, false, false, false, false] (by kernel_rfl) rfl rfl (Below.refl _ _).drew (fun hHeld => ?_)
                refine pure_ (i := 0) (N := some 122) (v := ?_) (a' := ?_) #[true, false, false, false, false, false, false, false, false, false, false, false, false, false, false, false, false] rfl rfl (by kernel_rfl) (fun _ _ _ h => h) (Or.inl ⟨by rfl, ?_⟩) ?_ ?_
                rotate_left
                · intro w'
                  go_simp
                  with_reducible rfl
                rotate_left
                · simp only [Act.put, List.setIfInBounds_toArray, List.set_cons_zero, List.set_cons_succ, i64_w, i32_w]
                  rfl
                refine pure_ (i := 1) (N := some 123) (v := ?_) (a' := ?_) #[true, true, false, false, false, false, false, false, false, false, false, false, false, false, false, false, false] rfl rfl (by kernel_rfl) (fun _ _ _ h => h) (Or.inl ⟨by rfl, ?_⟩) ?_ ?_
                rotate_left
                · intro w'
                  go_simp
                  with_reducible rfl
                rotate_left
                · simp only [Act.put, List.setIfInBounds_toArray, List.set_cons_zero, List.set_cons_succ, i64_w, i32_w]
                  rfl
                refine pure_ (i := 2) (N := some 124) (v := ?_) (a' := ?_) #[true, true, true, false, false, false, false, false, false, false, false, false, false, false, false, false, false] rfl rfl (by kernel_rfl) (fun _ _ _ h => h) (Or.inl ⟨by rfl, ?_⟩) ?_ ?_
                rotate_left
                · intro w'
                  go_simp
                  with_reducible rfl
                rotate_left
                · simp only [Act.put, List.setIfInBounds_toArray, List.set_cons_zero, List.set_cons_succ, i64_w, i32_w]
                  rfl
                refine pure_ (i := 3) (N := some 125) (v := ?_) (a' := ?_) #[true, true, true, true, false, false, false, false, false, false, false, false, false, false, false, false, false] rfl rfl (by kernel_rfl) (fun _ _ _ h => h) (Or.inl ⟨by rfl, ?_⟩) ?_ ?_
                rotate_left
                · intro w'
                  go_simp
                  with_reducible rfl
                rotate_left
                · simp only [Act.put, List.setIfInBounds_toArray, List.set_cons_zero, List.set_cons_succ, i64_w, i32_w]
                  rfl
                refine take_ (i := 4) (N := some 126) (v := ?_) (a' := ?_) #[true, true, true, true, true, false, false, false, false, false, false, false, false, false, false, false, false] rfl rfl (by kernel_rfl) (fun _ _ _ h => h) (Or.inl ⟨by rfl, ?_⟩) hHeld ?_ ?_
                rotate_left
                · intro w' hS
                  have hx := (hS.cell (World.block_lt_of_cell? _ _ (at_L0 HAT.out))).trans (at_L0 HAT.out)
                  go_simp
                  with_reducible rfl
                rotate_left
                · simp only [Act.put, List.setIfInBounds_toArray, List.set_cons_zero, List.set_cons_succ, i64_w, i32_w]
                  rfl
                refine pure_ (i := 5) (N := some 127) (v := ?_) (a' := ?_) #[true, true, true, true, true, true, false, false, false, false, false, false, false, false, false, false, false] rfl rfl (by kernel_rfl) (fun _ _ _ h => h) (Or.inl ⟨by rfl, ?_⟩) ?_ ?_
                rotate_left
                · intro w'
                  go_simp
                  with_reducible rfl
                rotate_left
                · simp only [Act.put, List.setIfInBounds_toArray, List.set_cons_zero, List.set_cons_succ, i64_w, i32_w]
                  rfl
                refine take_ (i := 6) (N := some 128) (v := ?_) (a' := ?_) #[true, true, true, true, true, true, true, false, false, false, false, false, false, false, false, false, false] rfl rfl (by kernel_rfl) (fun _ _ _ h => h) (Or.inl ⟨by rfl, ?_⟩) hHeld ?_ ?_
                rotate_left
                · intro w' hS
                  have hx := cell_L0 (HS.out.next hS).h7
                  go_simp
                  with_reducible rfl
                rotate_left
                · simp only [Act.put, List.setIfInBounds_toArray, List.set_cons_zero, List.set_cons_succ, i64_w, i32_w]
                  rfl
                refine pure_ (i := 7) (N := some 129) (v := ?_) (a' := ?_) #[true, true, true, true, true, true, true, true, false, false, false, false, false, false, false, false, false] rfl rfl (by kernel_rfl) (fun _ _ _ h => h) (Or.inl ⟨by rfl, ?_⟩) ?_ ?_
                rotate_left
                · intro w'
                  go_simp
                  rw [HQ1.out]
                  try with_reducible rfl
                rotate_left
                · simp only [Act.put, List.setIfInBounds_toArray, List.set_cons_zero, List.set_cons_succ, i64_w, i32_w]
                  rfl
                refine pure_ (i := 8) (N := some 130) (v := ?_) (a' := ?_) #[true, true, true, true, true, true, true, true, true, false, false, false, false, false, false, false, false] rfl rfl (by kernel_rfl) (fun _ _ _ h => h) (Or.inl ⟨by rfl, ?_⟩) ?_ ?_
                rotate_left
                · intro w'
                  go_simp
                  with_reducible rfl
                rotate_left
                · simp only [Act.put, List.setIfInBounds_toArray, List.set_cons_zero, List.set_cons_succ, i64_w, i32_w]
                  rfl
                refine pure_ (i := 9) (N := some 131) (v := ?_) (a' := ?_) #[true, true, true, true, true, true, true, true, true, true, false, false, false, false, false, false, false] rfl rfl (by kernel_rfl) (fun _ _ _ h => h) (Or.inl ⟨by rfl, ?_⟩) ?_ ?_
                rotate_left
                · intro w'
                  go_simp
                  with_reducible rfl
                rotate_left
                · simp only [Act.put, List.setIfInBounds_toArray, List.set_cons_zero, List.set_cons_succ, i64_w, i32_w]
                  rfl
                refine pure_ (i := 10) (N := some 132) (v := ?_) (a' := ?_) #[true, true, true, true, true, true, true, true, true, true, true, false, false, false, false, false, false] rfl rfl (by kernel_rfl) (fun _ _ _ h => h) (Or.inl ⟨by rfl, ?_⟩) ?_ ?_
                rotate_left
                · intro w'
                  go_simp
                  with_reducible rfl
                rotate_left
                · simp only [Act.put, List.setIfInBounds_toArray, List.set_cons_zero, List.set_cons_succ, i64_w, i32_w]
                  rfl
                refine pure_ (i := 11) (N := some 133) (v := ?_) (a' := ?_) #[true, true, true, true, true, true, true, true, true, true, true, true, false, false, false, false, false] rfl rfl (by kernel_rfl) (fun _ _ _ h => h) (Or.inl ⟨by rfl, ?_⟩) ?_ ?_
                rotate_left
                · intro w'
                  go_simp
                  with_reducible rfl
                rotate_left
                · simp only [Act.put, List.setIfInBounds_toArray, List.set_cons_zero, List.set_cons_succ, i64_w, i32_w]
                  rfl
                refine pure_ (i := 12) (N := some 134) (v := ?_) (a' := ?_) #[true, true, true, true, true, true, true, true, true, true, true, true, true, false, false, false, false] rfl rfl (by kernel_rfl) (fun _ _ _ h => h) (Or.inl ⟨by rfl, ?_⟩) ?_ ?_
                rotate_left
                · intro w'
                  go_simp
                  with_reducible rfl
                rotate_left
                · simp only [Act.put, List.setIfInBounds_toArray, List.set_cons_zero, List.set_cons_succ, i64_w, i32_w]
                  rfl
                refine take_ (i := 13) (N := some 135) (v := .agg (cL z)) (a' := ?_) #[true, true, true, true, true, true, true, true, true, true, true, true, true, true, false, false, false] rfl rfl (by kernel_rfl) (fun _ _ _ h => h) (Or.inl ⟨by rfl, fun w' hS => yield_load _ _ rfl _ rfl (le_L HAT.out hS 0)⟩) hHeld ?_ ?_
                rotate_left
                · simp only [Act.put, List.setIfInBounds_toArray, List.set_cons_zero, List.set_cons_succ, i64_w, i32_w]
                  rfl
                refine one_ (i := 14) (N := some 136) #[true, true, true, true, true, true, true, true, true, true, true, true, true, true, true, false, false] rfl rfl (by kernel_rfl) (by decide) (fun K hK => ?_)
                refine goes_ Tryd.func35 (by kernel_rfl) rfl #[.slice A l.length c, .agg (cL z)] (by rfl) rfl rfl (by simp only [List.map_toArray, List.map_cons, List.map_nil]; rfl) ?_
                refine (hasP_calls l z A c _ (HS.out.next hHeld).rl (by omega) (by have h := HM.out; rw [← HL.out.2.2.2.1] at h; exact ((mem_dropOf l x.k z).1 h).1)).mono ?_
                rintro e h1 ⟨rfl, hb1⟩
                refine ⟨_, rfl, ?_⟩
                refine hK.out _ _ (below_tr hHeld hb1 hHeld.size) (fun hHeld => ?_)
                clear hK K
                refine norm_ (a' := ?_) ?_ ?_
                rotate_left
                · show Act.put _ (some 136) _ = _
                  simp only [Act.put, List.setIfInBounds_toArray, List.set_cons_zero, List.set_cons_succ, i64_w, i32_w]
                  rfl
                refine pure_ (i := 15) (N := some 137) (v := ?_) (a' := ?_) #[true, true, true, true, true, true, true, true, true, true, true, true, true, true, true, true, false] rfl rfl (by kernel_rfl) (fun _ _ _ h => h) (Or.inl ⟨by rfl, ?_⟩) ?_ ?_
                rotate_left
                · intro w'
                  go_simp
                  with_reducible rfl
                rotate_left
                · simp only [Act.put, List.setIfInBounds_toArray, List.set_cons_zero, List.set_cons_succ, i64_w, i32_w]
                  rfl
                refine pure_ (i := 16) (N := some 138) (v := ?_) (a' := ?_) #[true, true, true, true, true, true, true, true, true, true, true, true, true, true, true, true, true] rfl rfl (by kernel_rfl) (fun _ _ _ h => h) (Or.inl ⟨by rfl, ?_⟩) ?_ ?_
                rotate_left
                · intro w'
                  go_simp
                  with_reducible rfl
                rotate_left
                · simp only [Act.put, List.setIfInBounds_toArray, List.set_cons_zero, List.set_cons_succ, i64_w, i32_w]
                  rfl
                refine done_ (by kernel_rfl) ?_
                have HQ := Aside0.mk (HS.out.next hHeld)
                clear hHeld
                as_aux_lemma =>
                  go_wp2
                  exact ⟨⟨n + 1, by simp, by omega, HQ⟩, by simp [intOf]; omega⟩
              · obtain rfl : n = D.length := by omega
                have c5 : ((D.length : Int) < (D.length : Int)) = False := eq_false (by omega)
                obtain ⟨q, hq⟩ : ∃ q, (x.k.toList == y.k.toList) = q := ⟨_, rfl⟩
                have HQ2 := Aside0.mk (show decide (x.k = y.k) = q by rw [← hq, ba_beq])
                have hx7 := cell_L0 HS.out.h7
                have hx8 := cell_L0 HS.out.h8
                cases q with
                | true =>
                  have HPP := Aside0.mk (show putOf P x = P by rw [← HL.out.2.2.1]; exact put_put HL.out.2.1)
                  have HDD := Aside0.mk (show dropOf D x.k = D by rw [← HL.out.2.2.2.1]; exact drop_drop l x.k)
                  go_wp2_with (first
                    | ((with_reducible refine gate_dst (N := 145) rfl ?_); (refine wpList_loadv rfl 33 _ rfl _ rfl _ (ld_L HS.out.h7 0) ?_))
                    | (go_at_call 31; (with_reducible refine (putP_calls P x Ap cp wr HS.out.rp (by omega) HL.out.2.2.2.2.1 P HPP.out).mono ?_); rintro e u1 ⟨A1, c1, rfl, hr1, hb1⟩; have S1 := Aside0.mk (And.intro (HS.out.next hb1) hr1); clear hr1 hb1 hx7 hx8)
                    | (go_at_call 36; (with_reducible refine (sameP_calls P A1 Ap c1 cp u1 S1.out.2 S1.out.1.rp (by omega)).mono ?_); rintro e u2 ⟨rfl, hb2⟩; have S2 := Aside0.mk (S1.out.1.next hb2); clear hb2; have hx9 := cell_L0 S2.out.h7)
                    | (go_at_call 32; (with_reducible refine (dropP_calls D x.k Ad cd u2 S2.out.rd (by omega) HL.out.2.2.2.2.2 D HDD.out).mono ?_); rintro e u3 ⟨A3, c3, rfl, hr3, hb3⟩; have S3 := Aside0.mk (And.intro (S2.out.next hb3) hr3); clear hr3 hb3 hx9)
                    | (go_at_call 36; (with_reducible refine (sameP_calls D A3 Ad c3 cd u3 S3.out.2 S3.out.1.rd (by omega)).mono ?_); rintro e u4 ⟨rfl, hb4⟩; have S4 := Aside0.mk (S3.out.1.next hb4); clear hb4))
                  go_ret
                  exact ⟨rfl, S4.out.below⟩
                | false =>
                  have hne : ¬ x.k = y.k := of_decide_eq_false HQ2.out
                  obtain ⟨LY, hLY⟩ : ∃ L, putOf l y = L := ⟨_, rfl⟩
                  obtain ⟨PY, hPY⟩ : ∃ L, putOf P y = L := ⟨_, rfl⟩
                  obtain ⟨LD, hLD⟩ : ∃ L, dropOf l y.k = L := ⟨_, rfl⟩
                  obtain ⟨DP, hDP⟩ : ∃ L, dropOf P y.k = L := ⟨_, rfl⟩
                  obtain ⟨DD, hDD⟩ : ∃ L, dropOf D y.k = L := ⟨_, rfl⟩
                  have hl1 : LY.length ≤ 100 := by rw [← hLY]; have := putOf_len' y HL.out.2.1; omega
                  have hl2 : PY.length ≤ 200 := by rw [← hPY]; have := putOf_len' y HL.out.2.2.2.2.1; omega
                  have hl3 : LD.length ≤ 100 := by rw [← hLD, dropOf]; exact Nat.le_trans (List.length_filter_le _ _) (by omega)
                  have hl4 : DP.length ≤ 100 := by rw [← hDP, dropOf]; exact Nat.le_trans (List.length_filter_le _ _) (by omega)
                  have hl5 : DD.length ≤ 100 := by rw [← hDD, dropOf]; exact Nat.le_trans (List.length_filter_le _ _) (by omega)
                  have HY := Aside0.mk (⟨hLY, hPY, hLD, hDP, hDD, by rw [← hLY]; exact HL.out.2.1.put y, by rw [← hLD]; exact HL.out.2.1.drop y.k, by rw [← hLY, ← hPY, ← HL.out.2.2.1]; exact (put_comm HL.out.2.1 hne).symm, by rw [← hLD, ← hDP, ← HL.out.2.2.1]; exact (drop_put HL.out.2.1 hne).symm, by rw [← hLD, ← hDD, ← HL.out.2.2.2.1]; exact drop_comm l y.k x.k⟩ :
                    putOf l y = LY ∧ putOf P y = PY ∧ dropOf l y.k = LD ∧ dropOf P y.k = DP ∧ dropOf D y.k = DD ∧ Srt LY ∧ Srt LD ∧ putOf LY x = PY ∧ putOf LD x = DP ∧ dropOf LD x.k = DD)
                  clear hLY hPY hLD hDP hDD hne
                  go_wp2
                  clear hx7 hx8 hq
                  refine start_ (n := 10) (S := fun w' => Below wr.heap.size wr w') (ds := []) #[false, false, false, false, false, false, false, false, false, false] (by kernel_rfl) rfl rfl (Below.refl _ _).drew (fun hHeld => ?_)
                  refine pure_ (i := 0) (N := some 160) (v := ?_) (a' := ?_) #[true, false, false, false, false, false, false, false, false, false] rfl rfl (by kernel_rfl) (fun _ _ _ h => h) (Or.inl ⟨by rfl, ?_⟩) ?_ ?_
                  rotate_left
                  · intro w'
                    go_simp
                    with_reducible rfl
                  rotate_left
                  · simp only [Act.put, List.setIfInBounds_toArray, List.set_cons_zero, List.set_cons_succ, i64_w, i32_w]
                    rfl
                  refine pure_ (i := 3) (N := some 163) (v := ?_) (a' := ?_) #[true, false, false, true, false, false, false, false, false, false] rfl rfl (by kernel_rfl) (fun _ _ _ h => h) (Or.inl ⟨by rfl, ?_⟩) ?_ ?_
                  rotate_left
                  · intro w'
                    go_simp
                    with_reducible rfl
                  rotate_left
                  · simp only [Act.put, List.setIfInBounds_toArray, List.set_cons_zero, List.set_cons_succ, i64_w, i32_w]
                    rfl
                  refine take_ (i := 1) (N := some 161) (v := .agg (cL y)) (a' := ?_) #[true, true, false, true, false, false, false, false, false, false] rfl rfl (by kernel_rfl) (fun _ _ _ h => h) (Or.inl ⟨by rfl, fun w' hS => yield_load _ _ rfl _ rfl (ld_L (HS.out.next hS).h8 0)⟩) hHeld ?_ ?_
                  rotate_left
                  · simp only [Act.put, List.setIfInBounds_toArray, List.set_cons_zero, List.set_cons_succ, i64_w, i32_w]
                    rfl
                  refine take_ (i := 4) (N := some 164) (v := .agg (cL y)) (a' := ?_) #[true, true, false, true, true, false, false, false, false, false] rfl rfl (by kernel_rfl) (fun _ _ _ h => h) (Or.inl ⟨by rfl, fun w' hS => yield_load _ _ rfl _ rfl (ld_L (HS.out.next hS).h8 0)⟩) hHeld ?_ ?_
                  rotate_left
                  · simp only [Act.put, List.setIfInBounds_toArray, List.set_cons_zero, List.set_cons_succ, i64_w, i32_w]
                    rfl
                  refine take_ (i := 6) (N := some 166) (v := .agg (cL x)) (a' := ?_) #[true, true, false, true, true, false, true, false, false, false] rfl rfl (by kernel_rfl) (fun _ _ _ h => h) (Or.inl ⟨by rfl, fun w' hS => yield_load _ _ rfl _ rfl (ld_L (HS.out.next hS).h7 0)⟩) hHeld ?_ ?_
                  rotate_left
                  · simp only [Act.put, List.setIfInBounds_toArray, List.set_cons_zero, List.set_cons_succ, i64_w, i32_w]
                    rfl
                  refine one_ (i := 2) (N := some 162) #[true, true, true, true, true, false, true, false, false, false] rfl rfl (by kernel_rfl) (by decide) (fun K hK => ?_)
                  refine goes_ Tryd.func31 (by kernel_rfl) rfl #[.slice Ap P.length cp, .agg (cL y)] (by rfl) rfl rfl (by simp only [List.map_toArray, List.map_cons, List.map_nil]; rfl) ?_
                  refine (putP_calls P y Ap cp _ (HS.out.next hHeld).rp (by omega) HL.out.2.2.2.2.1 PY HY.out.2.1).mono ?_
                  rintro e u1 ⟨A1, c1, rfl, hr1, hb1⟩
                  refine ⟨_, rfl, ?_⟩
                  have R1 := Aside0.mk hr1
                  clear hr1
                  refine hK.out _ _ (below_tr hHeld hb1 hHeld.size) (fun hHeld => ?_)
                  clear hK K
                  refine norm_ (a' := ?_) ?_ ?_
                  rotate_left
                  · show Act.put _ (some 162) _ = _
                    simp only [Act.put, List.setIfInBounds_toArray, List.set_cons_zero, List.set_cons_succ, i64_w, i32_w]
                    rfl
                  refine one_ (i := 5) (N := some 165) #[true, true, true, true, true, true, true, false, false, false] rfl rfl (by kernel_rfl) (by decide) (fun K hK => ?_)
                  refine goes_ Tryd.func31 (by kernel_rfl) rfl #[.slice A l.length c, .agg (cL y)] (by rfl) rfl rfl (by simp only [List.map_toArray, List.map_cons, List.map_nil]; rfl) ?_
                  refine (putP_calls l y A c _ (HS.out.next hHeld).rl (by omega) HL.out.2.1 LY HY.out.1).mono ?_
                  rintro e u2 ⟨A2, c2, rfl, hr2, hb2⟩
                  refine ⟨_, rfl, ?_⟩
                  have R1 := Aside0.mk (R1.out.below hb2)
                  have R2 := Aside0.mk hr2
                  clear hr2
                  refine hK.out _ _ (below_tr hHeld hb2 hHeld.size) (fun hHeld => ?_)
                  clear hK K
                  refine norm_ (a' := ?_) ?_ ?_
                  rotate_left
                  · show Act.put _ (some 165) _ = _
                    simp only [Act.put, List.setIfInBounds_toArray, List.set_cons_zero, List.set_cons_succ, i64_w, i32_w]
                    rfl
                  refine one_ (i := 7) (N := some 167) #[true, true, true, true, true, true, true, true, false, false] rfl rfl (by kernel_rfl) (by decide) (fun K hK => ?_)
                  refine goes_ Tryd.func31 (by kernel_rfl) rfl #[.slice A2 LY.length c2, .agg (cL x)] (by rfl) rfl rfl (by simp only [List.map_toArray, List.map_cons, List.map_nil]; rfl) ?_
                  refine (putP_calls LY x A2 c2 _ R2.out (by omega) HY.out.2.2.2.2.2.1 PY HY.out.2.2.2.2.2.2.2.1).mono ?_
                  rintro e u3 ⟨A3, c3, rfl, hr3, hb3⟩
                  refine ⟨_, rfl, ?_⟩
                  have R1 := Aside0.mk (R1.out.below hb3)
                  have R3 := Aside0.mk hr3
                  clear hr3
                  refine hK.out _ _ (below_tr hHeld hb3 hHeld.size) (fun hHeld => ?_)
                  clear hK K
                  refine norm_ (a' := ?_) ?_ ?_
                  rotate_left
                  · show Act.put _ (some 167) _ = _
                    simp only [Act.put, List.setIfInBounds_toArray, List.set_cons_zero, List.set_cons_succ, i64_w, i32_w]
                    rfl
                  refine one_ (i := 8) (N := some 168) #[true, true, true, true, true, true, true, true, true, false] rfl rfl (by kernel_rfl) (by decide) (fun K hK => ?_)
                  refine goes_ Tryd.func36 (by kernel_rfl) rfl #[.slice A1 PY.length c1, .slice A3 PY.length c3] (by rfl) rfl rfl (by simp only [List.map_toArray, List.map_cons, List.map_nil]; rfl) ?_
                  refine (sameP_calls PY A1 A3 c1 c3 _ R1.out R3.out (by omega)).mono ?_
                  rintro e u4 ⟨rfl, hb4⟩
                  refine ⟨_, rfl, ?_⟩
                  refine hK.out _ _ (below_tr hHeld hb4 hHeld.size) (fun hHeld => ?_)
                  clear hK K
                  refine norm_ (a' := ?_) ?_ ?_
                  rotate_left
                  · show Act.put _ (some 168) _ = _
                    simp only [Act.put, List.setIfInBounds_toArray, List.set_cons_zero, List.set_cons_succ, i64_w, i32_w]
                    rfl
                  refine pure_ (i := 9) (N := some 14) (v := ?_) (a' := ?_) #[true, true, true, true, true, true, true, true, true, true] rfl rfl (by kernel_rfl) (fun _ _ _ h => h) (Or.inl ⟨by rfl, ?_⟩) ?_ ?_
                  rotate_left
                  · intro w'
                    go_simp
                    with_reducible rfl
                  rotate_left
                  · simp only [Act.put, List.setIfInBounds_toArray, List.set_cons_zero, List.set_cons_succ, i64_w, i32_w]
                    rfl
                  refine done_ (by kernel_rfl) ?_
                  have HS := Aside0.mk (HS.out.next hHeld)
                  clear hHeld R1 R2 R3
                  go_wp2
                  refine start_ (n := 32) (S := fun w' => Below u4.heap.size u4 w') (ds := []) #[false, false, false, false, false, false, false, false, false, false, false, false, false, false, false, false, false, false, false, false, false, false, false, false, false, false, false, false, false, false, false, false] (by kernel_rfl) rfl rfl (Below.refl _ _).drew (fun hHeld => ?_)
                  refine pure_ (i := 0) (N := some 169) (v := ?_) (a' := ?_) #[true, false, false, false, false, false, false, false, false, false, false, false, false, false, false, false, false, false, false, false, false, false, false, false, false, false, false, false, false, false, false, false] rfl rfl (by kernel_rfl) (fun _ _ _ h => h) (Or.inl ⟨by rfl, ?_⟩) ?_ ?_
                  rotate_left
                  · intro w'
                    go_simp
                    with_reducible rfl
                  rotate_left
                  · simp only [Act.put, List.setIfInBounds_toArray, List.set_cons_zero, List.set_cons_succ, i64_w, i32_w]
                    rfl
                  refine pure_ (i := 1) (N := some 170) (v := ?_) (a' := ?_) #[true, true, false, false, false, false, false, false, false, false, false, false, false, false, false, false, false, false, false, false, false, false, false, false, false, false, false, false, false, false, false, false] rfl rfl (by kernel_rfl) (fun _ _ _ h => h) (Or.inl ⟨by rfl, ?_⟩) ?_ ?_
                  rotate_left
                  · intro w'
                    go_simp
                    with_reducible rfl
                  rotate_left
                  · simp only [Act.put, List.setIfInBounds_toArray, List.set_cons_zero, List.set_cons_succ, i64_w, i32_w]
                    rfl
                  refine pure_ (i := 2) (N := some 171) (v := ?_) (a' := ?_) #[true, true, true, false, false, false, false, false, false, false, false, false, false, false, false, false, false, false, false, false, false, false, false, false, false, false, false, false, false, false, false, false] rfl rfl (by kernel_rfl) (fun _ _ _ h => h) (Or.inl ⟨by rfl, ?_⟩) ?_ ?_
                  rotate_left
                  · intro w'
                    go_simp
                    with_reducible rfl
                  rotate_left
                  · simp only [Act.put, List.setIfInBounds_toArray, List.set_cons_zero, List.set_cons_succ, i64_w, i32_w]
                    rfl
                  refine pure_ (i := 3) (N := some 172) (v := ?_) (a' := ?_) #[true, true, true, true, false, false, false, false, false, false, false, false, false, false, false, false, false, false, false, false, false, false, false, false, false, false, false, false, false, false, false, false] rfl rfl (by kernel_rfl) (fun _ _ _ h => h) (Or.inl ⟨by rfl, ?_⟩) ?_ ?_
                  rotate_left
                  · intro w'
                    go_simp
                    with_reducible rfl
                  rotate_left
                  · simp only [Act.put, List.setIfInBounds_toArray, List.set_cons_zero, List.set_cons_succ, i64_w, i32_w]
                    rfl
                  refine take_ (i := 4) (N := some 173) (v := ?_) (a' := ?_) #[true, true, true, true, true, false, false, false, false, false, false, false, false, false, false, false, false, false, false, false, false, false, false, false, false, false, false, false, false, false, false, false] rfl rfl (by kernel_rfl) (fun _ _ _ h => h) (Or.inl ⟨by rfl, ?_⟩) hHeld ?_ ?_
                  rotate_left
                  · intro w' hS
                    have hx := cell_L0 (HS.out.next hS).h8
                    go_simp
                    with_reducible rfl
                  rotate_left
                  · simp only [Act.put, List.setIfInBounds_toArray, List.set_cons_zero, List.set_cons_succ, i64_w, i32_w]
                    rfl
                  refine pure_ (i := 6) (N := some 175) (v := ?_) (a' := ?_) #[true, true, true, true, true, false, true, false, false, false, false, false, false, false, false, false, false, false, false, false, false, false, false, false, false, false, false, false, false, false, false, false] rfl rfl (by kernel_rfl) (fun _ _ _ h => h) (Or.inl ⟨by rfl, ?_⟩) ?_ ?_
                  rotate_left
                  · intro w'
                    go_simp
                    with_reducible rfl
                  rotate_left
                  · simp only [Act.put, List.setIfInBounds_toArray, List.set_cons_zero, List.set_cons_succ, i64_w, i32_w]
                    rfl
                  refine pure_ (i := 7) (N := some 176) (v := ?_) (a' := ?_) #[true, true, true, true, true, false, true, true, false, false, false, false, false, false, false, false, false, false, false, false, false, false, false, false, false, false, false, false, false, false, false, false] rfl rfl (by kernel_rfl) (fun _ _ _ h => h) (Or.inl ⟨by rfl, ?_⟩) ?_ ?_
                  rotate_left
                  · intro w'
                    go_simp
                    with_reducible rfl
                  rotate_left
                  · simp only [Act.put, List.setIfInBounds_toArray, List.set_cons_zero, List.set_cons_succ, i64_w, i32_w]
                    rfl
                  refine take_ (i := 8) (N := some 177) (v := ?_) (a' := ?_) #[true, true, true, true, true, false, true, true, true, false, false, false, false, false, false, false, false, false, false, false, false, false, false, false, false, false, false, false, false, false, false, false] rfl rfl (by kernel_rfl) (fun _ _ _ h => h) (Or.inl ⟨by rfl, ?_⟩) hHeld ?_ ?_
                  rotate_left
                  · intro w' hS
                    have hx := cell_L0 (HS.out.next hS).h8
                    go_simp
                    with_reducible rfl
                  rotate_left
                  · simp only [Act.put, List.setIfInBounds_toArray, List.set_cons_zero, List.set_cons_succ, i64_w, i32_w]
                    rfl
                  refine take_ (i := 10) (N := some 179) (v := .agg (cL x)) (a' := ?_) #[true, true, true, true, true, false, true, true, true, false, true, false, false, false, false, false, false, false, false, false, false, false, false, false, false, false, false, false, false, false, false, false] rfl rfl (by kernel_rfl) (fun _ _ _ h => h) (Or.inl ⟨by rfl, fun w' hS => yield_load _ _ rfl _ rfl (ld_L (HS.out.next hS).h7 0)⟩) hHeld ?_ ?_
                  rotate_left
                  · simp only [Act.put, List.setIfInBounds_toArray, List.set_cons_zero, List.set_cons_succ, i64_w, i32_w]
                    rfl
                  refine one_ (i := 5) (N := some 174) #[true, true, true, true, true, true, true, true, true, false, true, false, false, false, false, false, false, false, false, false, false, false, false, false, false, false, false, false, false, false, false, false] rfl rfl (by kernel_rfl) (by decide) (fun K hK => ?_)
                  refine goes_ Tryd.func32 (by kernel_rfl) rfl #[.slice Ap P.length cp, .string y.k] (by rfl) rfl rfl (by simp only [List.map_toArray, List.map_cons, List.map_nil]; rfl) ?_
                  refine (dropP_calls P y.k Ap cp _ (HS.out.next hHeld).rp (by omega) HL.out.2.2.2.2.1 DP HY.out.2.2.2.1).mono ?_
                  rintro e u5 ⟨A5, c5, rfl, hr5, hb5⟩
                  refine ⟨_, rfl, ?_⟩
                  have R5 := Aside0.mk hr5
                  clear hr5
                  refine hK.out _ _ (below_tr hHeld hb5 hHeld.size) (fun hHeld => ?_)
                  clear hK K
                  refine norm_ (a' := ?_) ?_ ?_
                  rotate_left
                  · show Act.put _ (some 174) _ = _
                    simp only [Act.put, List.setIfInBounds_toArray, List.set_cons_zero, List.set_cons_succ, i64_w, i32_w]
                    rfl
                  refine one_ (i := 9) (N := some 178) #[true, true, true, true, true, true, true, true, true, true, true, false, false, false, false, false, false, false, false, false, false, false, false, false, false, false, false, false, false, false, false, false] rfl rfl (by kernel_rfl) (by decide) (fun K hK => ?_)
                  refine goes_ Tryd.func32 (by kernel_rfl) rfl #[.slice A l.length c, .string y.k] (by rfl) rfl rfl (by simp only [List.map_toArray, List.map_cons, List.map_nil]; rfl) ?_
                  refine (dropP_calls l y.k A c _ (HS.out.next hHeld).rl (by omega) HL.out.2.1 LD HY.out.2.2.1).mono ?_
                  rintro e u6 ⟨A6, c6, rfl, hr6, hb6⟩
                  refine ⟨_, rfl, ?_⟩
                  have R5 := Aside0.mk (R5.out.below hb6)
                  have R6 := Aside0.mk hr6
                  clear hr6
                  refine hK.out _ _ (below_tr hHeld hb6 hHeld.size) (fun hHeld => ?_)
                  clear hK K
                  refine norm_ (a' := ?_) ?_ ?_
                  rotate_left
                  · show Act.put _ (some 178) _ = _
                    simp only [Act.put, List.setIfInBounds_toArray, List.set_cons_zero, List.set_cons_succ, i64_w, i32_w]
                    rfl
                  refine one_ (i := 11) (N := some 180) #[true, true, true, true, true, true, true, true, true, true, true, true, false, false, false, false, false, false, false, false, false, false, false, false, false, false, false, false, false, false, false, false] rfl rfl (by kernel_rfl) (by decide) (fun K hK => ?_)
                  refine goes_ Tryd.func31 (by kernel_rfl) rfl #[.slice A6 LD.length c6, .agg (cL x)] (by rfl) rfl rfl (by simp only [List.map_toArray, List.map_cons, List.map_nil]; rfl) ?_
                  refine (putP_calls LD x A6 c6 _ R6.out (by omega) HY.out.2.2.2.2.2.2.1 DP HY.out.2.2.2.2.2.2.2.2.1).mono ?_
                  rintro e u7 ⟨A7, c7, rfl, hr7, hb7⟩
                  refine ⟨_, rfl, ?_⟩
                  have R5 := Aside0.mk (R5.out.below hb7)
                  have R7 := Aside0.mk hr7
                  clear hr7
                  refine hK.out _ _ (below_tr hHeld hb7 hHeld.size) (fun hHeld => ?_)
                  clear hK K
                  refine norm_ (a' := ?_) ?_ ?_
                  rotate_left
                  · show Act.put _ (some 180) _ = _
                    simp only [Act.put, List.setIfInBounds_toArray, List.set_cons_zero, List.set_cons_succ, i64_w, i32_w]
                    rfl
                  refine one_ (i := 12) (N := some 181) #[true, true, true, true, true, true, true, true, true, true, true, true, true, false, false, false, false, false, false, false, false, false, false, false, false, false, false, false, false, false, false, false] rfl rfl (by kernel_rfl) (by decide) (fun K hK => ?_)
                  refine goes_ Tryd.func36 (by kernel_rfl) rfl #[.slice A5 DP.length c5, .slice A7 DP.length c7] (by rfl) rfl rfl (by simp only [List.map_toArray, List.map_cons, List.map_nil]; rfl) ?_
                  refine (sameP_calls DP A5 A7 c5 c7 _ R5.out R7.out (by omega)).mono ?_
                  rintro e u8 ⟨rfl, hb8⟩
                  refine ⟨_, rfl, ?_⟩
                  refine hK.out _ _ (below_tr hHeld hb8 hHeld.size) (fun hHeld => ?_)
                  clear hK K
                  refine norm_ (a' := ?_) ?_ ?_
                  rotate_left
                  · show Act.put _ (some 181) _ = _
                    simp only [Act.put, List.setIfInBounds_toArray, List.set_cons_zero, List.set_cons_succ, i64_w, i32_w]
                    rfl
                  refine pure_ (i := 13) (N := some 182) (v := ?_) (a' := ?_) #[true, true, true, true, true, true, true, true, true, true, true, true, true, true, false, false, false, false, false, false, false, false, false, false, false, false, false, false, false, false, false, false] rfl rfl (by kernel_rfl) (fun _ _ _ h => h) (Or.inl ⟨by rfl, ?_⟩) ?_ ?_
                  rotate_left
                  · intro w'
                    go_simp
                    with_reducible rfl
                  rotate_left
                  · simp only [Act.put, List.setIfInBounds_toArray, List.set_cons_zero, List.set_cons_succ, i64_w, i32_w]
                    rfl
                  refine pure_ (i := 14) (N := some 183) (v := ?_) (a' := ?_) #[true, true, true, true, true, true, true, true, true, true, true, true, true, true, true, false, false, false, false, false, false, false, false, false, false, false, false, false, false, false, false, false] rfl rfl (by kernel_rfl) (fun _ _ _ h => h) (Or.inl ⟨by rfl, ?_⟩) ?_ ?_
                  rotate_left
                  · intro w'
                    go_simp
                    with_reducible rfl
                  rotate_left
                  · simp only [Act.put, List.setIfInBounds_toArray, List.set_cons_zero, List.set_cons_succ, i64_w, i32_w]
                    rfl
                  refine pure_ (i := 15) (N := some 184) (v := ?_) (a' := ?_) #[true, true, true, true, true, true, true, true, true, true, true, true, true, true, true, true, false, false, false, false, false, false, false, false, false, false, false, false, false, false, false, false] rfl rfl (by kernel_rfl) (fun _ _ _ h => h) (Or.inl ⟨by rfl, ?_⟩) ?_ ?_
                  rotate_left
                  · intro w'
                    go_simp
                    with_reducible rfl
                  rotate_left
                  · simp only [Act.put, List.setIfInBounds_toArray, List.set_cons_zero, List.set_cons_succ, i64_w, i32_w]
                    rfl
                  refine pure_ (i := 16) (N := some 185) (v := ?_) (a' := ?_) #[true, true, true, true, true, true, true, true, true, true, true, true, true, true, true, true, true, false, false, false, false, false, false, false, false, false, false, false, false, false, false, false] rfl rfl (by kernel_rfl) (fun _ _ _ h => h) (Or.inl ⟨by rfl, ?_⟩) ?_ ?_
                  rotate_left
                  · intro w'
                    go_simp
                    with_reducible rfl
                  rotate_left
                  · simp only [Act.put, List.setIfInBounds_toArray, List.set_cons_zero, List.set_cons_succ, i64_w, i32_w]
                    rfl
                  refine take_ (i := 17) (N := some 186) (v := ?_) (a' := ?_) #[true, true, true, true, true, true, true, true, true, true, true, true, true, true, true, true, true, true, false, false, false, false, false, false, false, false, false, false, false, false, false, false] rfl rfl (by kernel_rfl) (fun _ _ _ h => h) (Or.inl ⟨by rfl, ?_⟩) hHeld ?_ ?_
                  rotate_left
                  · intro w' hS
                    have hx := cell_L0 (HS.out.next hS).h8
                    go_simp
                    with_reducible rfl
                  rotate_left
                  · simp only [Act.put, List.setIfInBounds_toArray, List.set_cons_zero, List.set_cons_succ, i64_w, i32_w]
                    rfl
                  refine pure_ (i := 19) (N := some 188) (v := ?_) (a' := ?_) #[true, true, true, true, true, true, true, true, true, true, true, true, true, true, true, true, true, true, false, true, false, false, false, false, false, false, false, false, false, false, false, false] rfl rfl (by kernel_rfl) (fun _ _ _ h => h) (Or.inl ⟨by rfl, ?_⟩) ?_ ?_
                  rotate_left
                  · intro w'
                    go_simp
                    with_reducible rfl
                  rotate_left
                  · simp only [Act.put, List.setIfInBounds_toArray, List.set_cons_zero, List.set_cons_succ, i64_w, i32_w]
                    rfl
                  refine pure_ (i := 20) (N := some 189) (v := ?_) (a' := ?_) #[true, true, true, true, true, true, true, true, true, true, true, true, true, true, true, true, true, true, false, true, true, false, false, false, false, false, false, false, false, false, false, false] rfl rfl (by kernel_rfl) (fun _ _ _ h => h) (Or.inl ⟨by rfl, ?_⟩) ?_ ?_
                  rotate_left
                  · intro w'
                    go_simp
                    with_reducible rfl
                  rotate_left
                  · simp only [Act.put, List.setIfInBounds_toArray, List.set_cons_zero, List.set_cons_succ, i64_w, i32_w]
                    rfl
                  refine take_ (i := 21) (N := some 190) (v := ?_) (a' := ?_) #[true, true, true, true, true, true, true, true, true, true, true, true, true, true, true, true, true, true, false, true, true, true, false, false, false, false, false, false, false, false, false, false] rfl rfl (by kernel_rfl) (fun _ _ _ h => h) (Or.inl ⟨by rfl, ?_⟩) hHeld ?_ ?_
                  rotate_left
                  · intro w' hS
                    have hx := cell_L0 (HS.out.next hS).h8
                    go_simp
                    with_reducible rfl
                  rotate_left
                  · simp only [Act.put, List.setIfInBounds_toArray, List.set_cons_zero, List.set_cons_succ, i64_w, i32_w]
                    rfl
                  refine pure_ (i := 23) (N := some 192) (v := ?_) (a' := ?_) #[true, true, true, true, true, true, true, true, true, true, true, true, true, true, true, true, true, true, false, true, true, true, false, true, false, false, false, false, false, false, false, false] rfl rfl (by kernel_rfl) (fun _ _ _ h => h) (Or.inl ⟨by rfl, ?_⟩) ?_ ?_
                  rotate_left
                  · intro w'
                    go_simp
                    with_reducible rfl
                  rotate_left
                  · simp only [Act.put, List.setIfInBounds_toArray, List.set_cons_zero, List.set_cons_succ, i64_w, i32_w]
                    rfl
                  refine take_ (i := 24) (N := some 193) (v := ?_) (a' := ?_) #[true, true, true, true, true, true, true, true, true, true, true, true, true, true, true, true, true, true, false, true, true, true, false, true, true, false, false, false, false, false, false, false] rfl rfl (by kernel_rfl) (fun _ _ _ h => h) (Or.inl ⟨by rfl, ?_⟩) hHeld ?_ ?_
                  rotate_left
                  · intro w' hS
                    have hx := cell_L0 (HS.out.next hS).h7
                    go_simp
                    with_reducible rfl
                  rotate_left
                  · simp only [Act.put, List.setIfInBounds_toArray, List.set_cons_zero, List.set_cons_succ, i64_w, i32_w]
                    rfl
                  refine one_ (i := 18) (N := some 187) #[true, true, true, true, true, true, true, true, true, true, true, true, true, true, true, true, true, true, true, true, true, true, false, true, true, false, false, false, false, false, false, false] rfl rfl (by kernel_rfl) (by decide) (fun K hK => ?_)
                  refine goes_ Tryd.func32 (by kernel_rfl) rfl #[.slice Ad D.length cd, .string y.k] (by rfl) rfl rfl (by simp only [List.map_toArray, List.map_cons, List.map_nil]; rfl) ?_
                  refine (dropP_calls D y.k Ad cd _ (HS.out.next hHeld).rd (by omega) HL.out.2.2.2.2.2 DD HY.out.2.2.2.2.1).mono ?_
                  rintro e u9 ⟨A9, c9, rfl, hr9, hb9⟩
                  refine ⟨_, rfl, ?_⟩
                  have R9 := Aside0.mk hr9
                  clear hr9
                  refine hK.out _ _ (below_tr hHeld hb9 hHeld.size) (fun hHeld => ?_)
                  clear hK K
                  refine norm_ (a' := ?_) ?_ ?_
                  rotate_left
                  · show Act.put _ (some 187) _ = _
                    simp only [Act.put, List.setIfInBounds_toArray, List.set_cons_zero, List.set_cons_succ, i64_w, i32_w]
                    rfl
                  refine one_ (i := 22) (N := some 191) #[true, true, true, true, true, true, true, true, true, true, true, true, true, true, true, true, true, true, true, true, true, true, true, true, true, false, false, false, false, false, false, false] rfl rfl (by kernel_rfl) (by decide) (fun K hK => ?_)
                  refine goes_ Tryd.func32 (by kernel_rfl) rfl #[.slice A l.length c, .string y.k] (by rfl) rfl rfl (by simp only [List.map_toArray, List.map_cons, List.map_nil]; rfl) ?_
                  refine (dropP_calls l y.k A c _ (HS.out.next hHeld).rl (by omega) HL.out.2.1 LD HY.out.2.2.1).mono ?_
                  rintro e u10 ⟨A10, c10, rfl, hr10, hb10⟩
                  refine ⟨_, rfl, ?_⟩
                  have R9 := Aside0.mk (R9.out.below hb10)
                  have R10 := Aside0.mk hr10
                  clear hr10
                  refine hK.out _ _ (below_tr hHeld hb10 hHeld.size) (fun hHeld => ?_)
                  clear hK K
                  refine norm_ (a' := ?_) ?_ ?_
                  rotate_left
                  · show Act.put _ (some 191) _ = _
                    simp only [Act.put, List.setIfInBounds_toArray, List.set_cons_zero, List.set_cons_succ, i64_w, i32_w]
                    rfl
                  refine one_ (i := 25) (N := some 194) #[true, true, true, true, true, true, true, true, true, true, true, true, true, true, true, true, true, true, true, true, true, true, true, true, true, true, false, false, false, false, false, false] rfl rfl (by kernel_rfl) (by decide) (fun K hK => ?_)
                  refine goes_ Tryd.func32 (by kernel_rfl) rfl #[.slice A10 LD.length c10, .string x.k] (by rfl) rfl rfl (by simp only [List.map_toArray, List.map_cons, List.map_nil]; rfl) ?_
                  refine (dropP_calls LD x.k A10 c10 _ R10.out (by omega) HY.out.2.2.2.2.2.2.1 DD HY.out.2.2.2.2.2.2.2.2.2).mono ?_
                  rintro e u11 ⟨A11, c11, rfl, hr11, hb11⟩
                  refine ⟨_, rfl, ?_⟩
                  have R9 := Aside0.mk (R9.out.below hb11)
                  have R11 := Aside0.mk hr11
                  clear hr11
                  refine hK.out _ _ (below_tr hHeld hb11 hHeld.size) (fun hHeld => ?_)
                  clear hK K
                  refine norm_ (a' := ?_) ?_ ?_
                  rotate_left
                  · show Act.put _ (some 194) _ = _
                    simp only [Act.put, List.setIfInBounds_toArray, List.set_cons_zero, List.set_cons_succ, i64_w, i32_w]
                    rfl
                  refine one_ (i := 26) (N := some 195) #[true, true, true, true, true, true, true, true, true, true, true, true, true, true, true, true, true, true, true, true, true, true, true, true, true, true, true, false, false, false, false, false] rfl rfl (by kernel_rfl) (by decide) (fun K hK => ?_)
                  refine goes_ Tryd.func36 (by kernel_rfl) rfl #[.slice A9 DD.length c9, .slice A11 DD.length c11] (by rfl) rfl rfl (by simp only [List.map_toArray, List.map_cons, List.map_nil]; rfl) ?_
                  refine (sameP_calls DD A9 A11 c9 c11 _ R9.out R11.out (by omega)).mono ?_
                  rintro e u12 ⟨rfl, hb12⟩
                  refine ⟨_, rfl, ?_⟩
                  refine hK.out _ _ (below_tr hHeld hb12 hHeld.size) (fun hHeld => ?_)
                  clear hK K
                  refine norm_ (a' := ?_) ?_ ?_
                  rotate_left
                  · show Act.put _ (some 195) _ = _
                    simp only [Act.put, List.setIfInBounds_toArray, List.set_cons_zero, List.set_cons_succ, i64_w, i32_w]
                    rfl
                  refine pure_ (i := 27) (N := some 196) (v := ?_) (a' := ?_) #[true, true, true, true, true, true, true, true, true, true, true, true, true, true, true, true, true, true, true, true, true, true, true, true, true, true, true, true, false, false, false, false] rfl rfl (by kernel_rfl) (fun _ _ _ h => h) (Or.inl ⟨by rfl, ?_⟩) ?_ ?_
                  rotate_left
                  · intro w'
                    go_simp
                    with_reducible rfl
                  rotate_left
                  · simp only [Act.put, List.setIfInBounds_toArray, List.set_cons_zero, List.set_cons_succ, i64_w, i32_w]
                    rfl
                  refine pure_ (i := 28) (N := some 197) (v := ?_) (a' := ?_) #[true, true, true, true, true, true, true, true, true, true, true, true, true, true, true, true, true, true, true, true, true, true, true, true, true, true, true, true, true, false, false, false] rfl rfl (by kernel_rfl) (fun _ _ _ h => h) (Or.inl ⟨by rfl, ?_⟩) ?_ ?_
                  rotate_left
                  · intro w'
                    go_simp
                    with_reducible rfl
                  rotate_left
                  · simp only [Act.put, List.setIfInBounds_toArray, List.set_cons_zero, List.set_cons_succ, i64_w, i32_w]
                    rfl
                  refine pure_ (i := 29) (N := some 198) (v := ?_) (a' := ?_) #[true, true, true, true, true, true, true, true, true, true, true, true, true, true, true, true, true, true, true, true, true, true, true, true, true, true, true, true, true, true, false, false] rfl rfl (by kernel_rfl) (fun _ _ _ h => h) (Or.inl ⟨by rfl, ?_⟩) ?_ ?_
                  rotate_left
                  · intro w'
                    go_simp
                    with_reducible rfl
                  rotate_left
                  · simp only [Act.put, List.setIfInBounds_toArray, List.set_cons_zero, List.set_cons_succ, i64_w, i32_w]
                    rfl
                  refine pure_ (i := 30) (N := some 199) (v := ?_) (a' := ?_) #[true, true, true, true, true, true, true, true, true, true, true, true, true, true, true, true, true, true, true, true, true, true, true, true, true, true, true, true, true, true, true, false] rfl rfl (by kernel_rfl) (fun _ _ _ h => h) (Or.inl ⟨by rfl, ?_⟩) ?_ ?_
                  rotate_left
                  · intro w'
                    go_simp
                    with_reducible rfl
                  rotate_left
                  · simp only [Act.put, List.setIfInBounds_toArray, List.set_cons_zero, List.set_cons_succ, i64_w, i32_w]
                    rfl
                  refine pure_ (i := 31) (N := some 4) (v := ?_) (a' := ?_) #[true, true, true, true, true, true, true, true, true, true, true, true, true, true, true, true, true, true, true, true, true, true, true, true, true, true, true, true, true, true, true, true] rfl rfl (by kernel_rfl) (fun _ _ _ h => h) (Or.inl ⟨by rfl, ?_⟩) ?_ ?_
                  rotate_left
                  · intro w'
                    go_simp
                    with_reducible rfl
                  rotate_left
                  · simp only [Act.put, List.setIfInBounds_toArray, List.set_cons_zero, List.set_cons_succ, i64_w, i32_w]
                    rfl
                  refine done_ (by kernel_rfl) ?_
                  have HFIN := Aside0.mk (HS.out.next hHeld).below
                  clear hHeld
                  go_wp2
                  go_ret
                  exact ⟨rfl, HFIN.out⟩
end Go.Proofs.YtanabbjakacgbaaDoor.Sp

