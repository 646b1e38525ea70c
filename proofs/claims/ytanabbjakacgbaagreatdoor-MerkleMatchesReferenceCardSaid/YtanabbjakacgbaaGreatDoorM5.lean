/- Put together by this session's program out of: Rv Rw Rx. -/
import Derived.Test.YtanabbjakacgbaaGreatDoorM4
namespace Go.Proofs.YtanabbjakacgbaaGreatDoor.Sp
open Go.RowKit Go.Proofs.YtanabbjakacgbaaGreatDoorW.PrintWords Go.Proofs.YtanabbjakacgbaaGreatDoorW.PrintLast Go.Proofs.YtanabbjakacgbaaGreatDoorW.PrintMore Go.Proofs.YtanabbjakacgbaaGreatDoor.PM Go.Proofs.YtanabbjakacgbaaGreatDoor.Grow
set_option linter.unusedVariables false
set_option linter.unusedSimpArgs false
set_option maxRecDepth 100000
set_option maxHeartbeats 400000 in
theorem right_calls (k : ByteArray) (hk1 : k.size ≤ 200000) (A : Option Addr) (n c : Nat) (hn : n ≤ 1000000) (e : Int) (l : Lf) (hl1 : l.k.size ≤ 200000) (w : World) (hW : Words w) :
  Calls Tryz.prog 65 #[.string k, .agg (cP (.slice A n c) e l)] w fun r w' => r = .returned (.bool (rightB k n e l)) ∧ Below w.heap.size w w' := by
 obtain ⟨g, hg⟩ : ∃ g, g = w.heap.size := ⟨_, rfl⟩
 obtain ⟨wb, hwb⟩ : ∃ wb, w.alloc (.cells (cP (.slice A n c) e l) 34) = wb := ⟨_, rfl⟩
 have h0 : wb.heap[g]? = some (.cells (cP (.slice A n c) e l) 34 (0, 0)) := by rw [← hwb]; exact h_new hg
 have hb : Below w.heap.size w wb := by rw [← hwb]; exact below_alloc (Below.refl _ _) _
 have hs : wb.heap.size = g + 1 := by rw [← hwb, size_alloc, hg]
 have HB := Aside0.mk (⟨h0, hb, hs, hW.below hb⟩ : _ ∧ _ ∧ _ ∧ _)
 have HWB := Aside0.mk hwb
 have HG := Aside0.mk hg
 have hc0 := cell_P0 h0
 have hc1 := cell_P1 h0
 have hc2 := cell_P2 h0
 obtain ⟨C, hC⟩ : ∃ C, C = cP (.slice A n c) e l := ⟨_, rfl⟩
 rw [← hC] at HWB ⊢
 clear h0 hb hs hwb hg hC hW
 go_enter Tryz.func65, Tryz.ntmps65
 by_cases h1 : n ≤ 256
 ·have h1b : ¬ (256 : Int) < (n : Int) := by omega
  have hd1 : decide (n ≤ 256) = true := decide_eq_true h1
  by_cases e0 : e = 0
  ·subst e0
   have hle : (loadVar 32 ⟨g, 2, none⟩).run Tryz.prog wb = .ok (.agg (cL l)) wb := le_L (cells_P2 HB.out.1) (Below.refl _ _) 0
   have hres : rightB k n 0 l = decide (l = zL) := by rw [rightB, hd1]; simp
   have HRES := Aside0.mk hres
   clear hres
   go_wp2_with (first
    | ((with_reducible refine gate_dst (N := 8) rfl ?_); (refine at_world (w' := wb) HWB.out ?_); rw [← HG.out])
    | ((with_reducible refine gate_dst (N := 17) rfl ?_); refine wpList_loadv rfl _ _ rfl _ rfl _ hle ?_)
    | ((with_reducible refine gate_dst (N := 18) rfl ?_); (refine wpList_built0 rfl 32 rfl (cL zL) (by kernel_rfl) ?_))
    | (refine wpList_eql rfl _ _ _ _ rfl _ _ rfl rfl gt_L _ (fun w => eqL w _ _) ?_))
   go_ret
   exact ⟨by rw [HRES.out]; rfl, HB.out.2.1⟩
  ·have e0b : (e == 0) = false := by simp [e0]
   by_cases e1 : e = 1
   ·subst e1
    have hres : rightB k n 1 l = decide (l.k = k) := by rw [rightB, hd1]; simp
    have HRES := Aside0.mk hres
    clear hres
    go_wp2_with (first
     | ((with_reducible refine gate_dst (N := 8) rfl ?_); (refine at_world (w' := wb) HWB.out ?_); rw [← HG.out]))
    go_ret
    refine ⟨?_, HB.out.2.1⟩
    rw [HRES.out]
    by_cases hq : l.k = k
    ·simp [hq]
    ·have h2 : ¬ l.k.toList = k.toList := fun h => hq (toList_inj.1 h)
     simp [hq, h2]
   ·have e1b : (e == 1) = false := by simp [e1]
    by_cases e2 : e = 2
    ·subst e2
     have hres : rightB k n 2 l = (agree (hk k) (hk l.k) n && decide (¬ l.k = k)) := by rw [rightB, hd1]; simp
     have HRES := Aside0.mk hres
     have HC2 := Aside0.mk hc2
     clear hres e0 e0b e1 e1b
     go_wp2_with (first
      | ((with_reducible refine gate_dst (N := 8) rfl ?_); (refine at_world (w' := wb) HWB.out ?_); rw [← HG.out]))
     refine region_grow (n := 10) [29, 30, 31, 32, 33, 34, 35, 36, 5, 6] (by kernel_rfl) (by kernel_rfl) (by kernel_rfl) (rightF g k l.k wb.heap.size) (fun i => i == 8 || i == 9) (rightF_mono _ _ _ _) ?hstep ?hend
     case hstep =>
      intro i o hi ho vs w2 hb2 hd K hK
      simp only [fil2, List.zipIdx_cons, List.zipIdx_nil, List.foldl_cons, List.foldl_nil, lZa, lZb, lZc, Nat.zero_add, Nat.reduceAdd] at hK ⊢
      match i, hi, ho, hK with
      | 0, _, ho, hK =>
       obtain rfl : _ = o := Option.some.inj ho
       exact gr_move (.tmp 0) rfl (.string k) rfl (hK _ _ rfl (Below.refl _ _) (fun h => by cases h))
      | 1, _, ho, hK =>
       obtain rfl : _ = o := Option.some.inj ho
       have h1 : vs 0 = .string k := hd ⟨0, .data⟩ (by simp) rfl
       obtain ⟨b, c', e1, e2, e3⟩ := str_made (w := w2) (s := k) (by omega)
       exact gr_val _ (str_value (.tmp 29) rfl k h1 Tryz.underlying9 Tryz.underlying53 Tryz.underlying5) (hK _ _ ⟨b, c', e1, e2, e3⟩ (bytes_below' _ _) (fun h => by cases h))
      | 2, _, ho, hK =>
       obtain rfl : _ = o := Option.some.inj ho
       obtain ⟨b, c', e1, e2, e3⟩ : ∃ b c', vs 1 = .slice (some ⟨b, 0, none⟩) k.size c' ∧ k.size ≤ c' ∧ Kd.C (Kd.int .u8) w2 (some ⟨b, 0, none⟩) (bytesOf k).length (bytesOf k) := hd ⟨1, .data⟩ (by simp) rfl
       refine gr_go Tryz.func62 (by kernel_rfl) rfl #[.slice (some ⟨b, 0, none⟩) (bytesOf k).length c'] rfl (by simp only [List.map_toArray, List.map_cons, List.map_nil]; rw [bytesOf_length, ← e1]; rfl) ?_
       refine (sumH_calls (bytesOf k) _ c' (bytesOf_ok k) (by rw [bytesOf_length]; exact e2) (by rw [bytesOf_length]; omega) w2 (HB.out.2.2.2.below hb2) e3).mono ?_
       rintro r w3 ⟨rfl, hb3⟩
       exact ⟨_, rfl, hK _ _ rfl hb3 (fun h => by cases h)⟩
      | 3, _, ho, hK =>
       obtain rfl : _ = o := Option.some.inj ho
       exact gr_val _ (by go_simp) (hK _ _ rfl (Below.refl _ _) (fun h => by cases h))
      | 4, _, ho, hK =>
       obtain rfl : _ = o := Option.some.inj ho
       have h3 : vs 3 = .pointer (some ⟨g, 2, none⟩) := hd ⟨3, .data⟩ (by simp) rfl
       exact gr_val (.pointer (some ⟨g, 2, none⟩)) (by go_simp) (hK _ _ rfl (Below.refl _ _) (fun h => by cases h))
      | 5, _, ho, hK =>
       obtain rfl : _ = o := Option.some.inj ho
       have h4 : vs 4 = .pointer (some ⟨g, 2, none⟩) := hd ⟨4, .data⟩ (by simp) rfl
       exact gr_load 9 (.tmp 33) rfl ⟨g, 2, none⟩ h4 (.string l.k) (run_loadVar_one Tryz.underlying9 rfl ((World.cell?_of_block (hb2.block g (by have := HB.out.2.2.1; omega))).trans HC2.out)) (hK _ _ rfl (Below.refl _ _) (fun h => by cases h))
      | 6, _, ho, hK =>
       obtain rfl : _ = o := Option.some.inj ho
       have h1 : vs 5 = .string l.k := hd ⟨5, .data⟩ (by simp) rfl
       obtain ⟨b, c', e1, e2, e3⟩ := str_made (w := w2) (s := l.k) (by omega)
       exact gr_val _ (str_value (.tmp 34) rfl l.k h1 Tryz.underlying9 Tryz.underlying53 Tryz.underlying5) (hK _ _ ⟨b, c', e1, e2, e3⟩ (bytes_below' _ _) (fun h => by cases h))
      | 7, _, ho, hK =>
       obtain rfl : _ = o := Option.some.inj ho
       obtain ⟨b, c', e1, e2, e3⟩ : ∃ b c', vs 6 = .slice (some ⟨b, 0, none⟩) l.k.size c' ∧ l.k.size ≤ c' ∧ Kd.C (Kd.int .u8) w2 (some ⟨b, 0, none⟩) (bytesOf l.k).length (bytesOf l.k) := hd ⟨6, .data⟩ (by simp) rfl
       refine gr_go Tryz.func62 (by kernel_rfl) rfl #[.slice (some ⟨b, 0, none⟩) (bytesOf l.k).length c'] rfl (by simp only [List.map_toArray, List.map_cons, List.map_nil]; rw [bytesOf_length, ← e1]; rfl) ?_
       refine (sumH_calls (bytesOf l.k) _ c' (bytesOf_ok l.k) (by rw [bytesOf_length]; exact e2) (by rw [bytesOf_length]; omega) w2 (HB.out.2.2.2.below hb2) e3).mono ?_
       rintro r w3 ⟨rfl, hb3⟩
       exact ⟨_, rfl, hK _ _ rfl hb3 (fun h => by cases h)⟩
      | 8, _, ho, hK =>
       obtain rfl : _ = o := Option.some.inj ho
       exact gr_alloc 30 (.agg (cS zS)) rfl zero27 (hK _ _ ⟨_, rfl, hb2.size, h_new rfl⟩ (below_alloc (Below.refl _ _) _) (fun _ b hb => by obtain rfl := Option.some.inj hb; exact ⟨Nat.le_refl _, by rw [size_alloc]; exact Nat.lt_succ_self _⟩))
      | 9, _, ho, hK =>
       obtain rfl : _ = o := Option.some.inj ho
       exact gr_alloc 30 (.agg (cS zS)) rfl zero27 (hK _ _ ⟨_, rfl, hb2.size, h_new rfl⟩ (below_alloc (Below.refl _ _) _) (fun _ b hb => by obtain rfl := Option.some.inj hb; exact ⟨Nat.le_refl _, by rw [size_alloc]; exact Nat.lt_succ_self _⟩))
      | _ + 10, hi, _, _ => exact absurd hi (by omega)
     case hend =>
      intro vs w2 hb2 hF hD
      simp only [fil2, List.zipIdx_cons, List.zipIdx_nil, List.foldl_cons, List.foldl_nil, lZa, lZb, lZc, Nat.zero_add, Nat.reduceAdd]
      have f0 : vs 0 = .string k := hF 0 (by decide)
      have f2 : vs 2 = .agg (cS (hk k)) := hF 2 (by decide)
      have f7 : vs 7 = .agg (cS (hk l.k)) := hF 7 (by decide)
      obtain ⟨b5, f8, f8b, f8h⟩ : ∃ b, vs 8 = .pointer (some ⟨b, 0, none⟩) ∧ wb.heap.size ≤ b ∧ w2.heap[b]? = some (.cells (cS zS) 30 (0, 0)) := hF 8 (by decide)
      obtain ⟨b6, f9, f9b, f9h⟩ : ∃ b, vs 9 = .pointer (some ⟨b, 0, none⟩) ∧ wb.heap.size ≤ b ∧ w2.heap[b]? = some (.cells (cS zS) 30 (0, 0)) := hF 9 (by decide)
      obtain ⟨a, ha⟩ : ∃ a, hk k = a := ⟨_, rfl⟩
      obtain ⟨b, hbb⟩ : ∃ b, hk l.k = b := ⟨_, rfl⟩
      rw [ha] at f2
      rw [hbb] at f7
      have HAB := Aside0.mk (And.intro ha hbb)
      clear ha hbb
      have hne : b6 ≠ b5 := fun e => hD 8 9 (by decide) (by decide) (by decide) rfl rfl b5 (by rw [f8]; rfl) (by rw [f9, e]; rfl)
      clear hD hF
      obtain ⟨v1, hv1⟩ : ∃ v, vs 1 = v := ⟨_, rfl⟩
      obtain ⟨v3, hv3⟩ : ∃ v, vs 3 = v := ⟨_, rfl⟩
      obtain ⟨v4, hv4⟩ : ∃ v, vs 4 = v := ⟨_, rfl⟩
      obtain ⟨v5, hv5⟩ : ∃ v, vs 5 = v := ⟨_, rfl⟩
      obtain ⟨v6, hv6⟩ : ∃ v, vs 6 = v := ⟨_, rfl⟩
      rw [f0, f2, f7, f8, f9, hv1, hv3, hv4, hv5, hv6]
      clear hv1 hv3 hv4 hv5 hv6 f0 f2 f7 f8 f9 vs
      simp only [List.toList_toArray, List.drop_succ_cons, List.drop_zero]
      refine wpList_store_row rfl 30 (.tmp 5) (.tmp 31) rfl b5 (cS a) rfl rfl 30 (cS zS) f8h ?g3 ?g4 (encI_one _) ?_
      case g3 => rw [cS_size]; kernel_rfl
      case g4 => rw [cS_size, cS_size]
      refine wpList_store_row rfl 30 (.tmp 6) (.tmp 36) rfl b6 (cS b) rfl rfl 30 (cS zS) ((setRow_other _ _ _ _ hne).trans f9h) ?g3 ?g4 (encI_one _) ?_
      case g3 => rw [cS_size]; kernel_rfl
      case g4 => rw [cS_size, cS_size]
      obtain ⟨wy, hwy⟩ : ∃ wy, wy = (w2.setRow b5 (cS a)).setRow b6 (cS b) := ⟨_, rfl⟩
      have hy5 : wy.heap[b5]? = some (.cells (cS a) 30 (0, 0)) := by rw [hwy]; exact (setRow_other _ _ _ _ (Ne.symm hne)).trans (setRow_heap _ _ _ _ _ _ f8h)
      have hy6 : wy.heap[b6]? = some (.cells (cS b) 30 (0, 0)) := by rw [hwy]; exact setRow_heap _ _ _ _ _ _ ((setRow_other _ _ _ _ hne).trans f9h)
      have hyb : Below wb.heap.size wb wy := by rw [hwy]; exact below_setRow (below_setRow hb2 f8b) f9b
      rw [← hwy]
      have hy0 : wy.cell? ⟨g, 0, none⟩ = some (.slice A n c) := (World.cell?_of_block (hyb.block g (by have := HB.out.2.2.1; omega))).trans hc0
      clear hwy f8h f9h f8b f9b hne hb2
      have HY := Aside0.mk (⟨hy5, hy6, hyb⟩ : _ ∧ _ ∧ _)
      clear hy5 hy6 hyb
      go_wp2
      go_loopw [40, 7] (fun i v7 wr => ∃ m : Nat, i = .int .i64 (m : Int) ∧ m ≤ n ∧ Aside0 (∀ j, j < m → bitI a j = bitI b j) ∧ Aside0 (Below wy.heap.size wy wr)) (fun i _ _ => n - (intOf i).toNat)
      case atStart => exact ⟨0, rfl, by omega, ⟨fun j hj => by omega⟩, ⟨Below.refl _ _⟩⟩
      case round =>
       clear hy0
       obtain ⟨m, rfl, hm, HV, HR⟩ := hrel
       by_cases c5 : m < n
       ·have c5b : (m : Int) < (n : Int) := by omega
        have hm2 : m < 256 := by omega
        have h5 := (HR.out.block b5 (Array.getElem?_eq_some_iff.1 HY.out.1).1).trans HY.out.1
        have h6 := (HR.out.block b6 (Array.getElem?_eq_some_iff.1 HY.out.2.1).1).trans HY.out.2.1
        have H56 := Aside0.mk (And.intro h5 h6)
        clear h5 h6
        obtain ⟨p, hp⟩ : ∃ p, bitI a m = p := ⟨_, rfl⟩
        obtain ⟨q, hq⟩ : ∃ q, bitI b m = q := ⟨_, rfl⟩
        have HPQ := Aside0.mk (And.intro hp hq)
        clear hp hq
        go_wp2
        refine start_ (n := 7) (S := fun w' => Below wr.heap.size wr w') (ds := []) #[false, false, false, false, false, false, false] (by kernel_rfl) rfl rfl (Below.refl _ _).drew (fun hHeld => ?_)
        refine take_ (i := 0) (N := some 43) (v := .agg (cS a)) (a' := ?_) #[true, false, false, false, false, false, false] rfl rfl (by kernel_rfl) (fun _ _ _ h => h) (Or.inl ⟨by rfl, fun w' hS => yield_load _ _ rfl _ rfl (ld_S ((hS.block b5 (Array.getElem?_eq_some_iff.1 H56.out.1).1).trans H56.out.1) 0)⟩) hHeld ?_ ?_
        rotate_left
        ·simp only [Act.put, lZa, lZb, lZc, i64_w, i32_w]
         rfl
        refine pure_ (i := 1) (N := some 44) (v := ?_) (a' := ?_) #[true, true, false, false, false, false, false] rfl rfl (by kernel_rfl) (fun _ _ _ h => h) (Or.inl ⟨by rfl, ?_⟩) ?_ ?_
        rotate_left
        ·intro w'
         go_simp
         with_reducible rfl
        rotate_left
        ·simp only [Act.put, lZa, lZb, lZc, i64_w, i32_w]
         rfl
        refine take_ (i := 3) (N := some 46) (v := .agg (cS b)) (a' := ?_) #[true, true, false, true, false, false, false] rfl rfl (by kernel_rfl) (fun _ _ _ h => h) (Or.inl ⟨by rfl, fun w' hS => yield_load _ _ rfl _ rfl (ld_S ((hS.block b6 (Array.getElem?_eq_some_iff.1 H56.out.2).1).trans H56.out.2) 0)⟩) hHeld ?_ ?_
        rotate_left
        ·simp only [Act.put, lZa, lZb, lZc, i64_w, i32_w]
         rfl
        refine pure_ (i := 4) (N := some 47) (v := ?_) (a' := ?_) #[true, true, false, true, true, false, false] rfl rfl (by kernel_rfl) (fun _ _ _ h => h) (Or.inl ⟨by rfl, ?_⟩) ?_ ?_
        rotate_left
        ·intro w'
         go_simp
         with_reducible rfl
        rotate_left
        ·simp only [Act.put, lZa, lZb, lZc, i64_w, i32_w]
         rfl
        refine one_ (i := 2) (N := some 45) #[true, true, true, true, true, false, false] rfl rfl (by kernel_rfl) (by decide) (fun K hK => ?_)
        refine goes_ Tryz.func64 (by kernel_rfl) rfl #[.agg (cS a), .int .i64 (m : Int)] (by rfl) rfl rfl (by simp only [List.map_toArray, List.map_cons, List.map_nil]; rfl) ?_
        refine (bitm_calls a m hm2 _).mono ?_
        rw [HPQ.out.1]
        rintro r w3 ⟨rfl, hb3⟩
        refine ⟨_, rfl, ?_⟩
        refine hK.out _ _ (below_tr hHeld hb3 hHeld.size) (fun hHeld => ?_)
        clear hK K
        refine norm_ (a' := ?_) ?_ ?_
        rotate_left
        ·show Act.put _ (some 45) _ = _
         simp only [Act.put, lZa, lZb, lZc, i64_w, i32_w]
         rfl
        refine one_ (i := 5) (N := some 48) #[true, true, true, true, true, true, false] rfl rfl (by kernel_rfl) (by decide) (fun K hK => ?_)
        refine goes_ Tryz.func64 (by kernel_rfl) rfl #[.agg (cS b), .int .i64 (m : Int)] (by rfl) rfl rfl (by simp only [List.map_toArray, List.map_cons, List.map_nil]; rfl) ?_
        refine (bitm_calls b m hm2 w3).mono ?_
        rw [HPQ.out.2]
        rintro r w4 ⟨rfl, hb4⟩
        refine ⟨_, rfl, ?_⟩
        refine hK.out _ _ (below_tr hHeld hb4 hHeld.size) (fun hHeld => ?_)
        clear hK K
        refine norm_ (a' := ?_) ?_ ?_
        rotate_left
        ·show Act.put _ (some 48) _ = _
         simp only [Act.put, lZa, lZb, lZc, i64_w, i32_w]
         rfl
        have H4 := Aside0.mk (below_tr HR.out hHeld HR.out.size)
        clear hHeld hb3 hb4
        refine pure_ (i := 6) (N := some 49) (v := ?_) (a' := ?_) #[true, true, true, true, true, true, true] rfl rfl (by kernel_rfl) (fun _ _ _ h => h) (Or.inl ⟨by rfl, ?_⟩) ?_ ?_
        rotate_left
        ·intro w'
         go_simp
         with_reducible rfl
        rotate_left
        ·simp only [Act.put, lZa, lZb, lZc, i64_w, i32_w]
         rfl
        refine done_ (by kernel_rfl) ?_
        by_cases hpq : p = q
        ·have hpq2 : (p != q) = false := by simp [hpq]
         go_wp2
         refine ⟨⟨m + 1, by simp, by omega, ⟨fun j hj => ?_⟩, H4⟩, by simp [intOf]; omega⟩
         by_cases hjm : j = m
         ·subst hjm
          rw [HPQ.out.1, HPQ.out.2, hpq]
         ·exact HV.out j (by omega)
        ·have hpq2 : (p != q) = true := by simp [hpq]
         have hres2 : agree a b n = false := agree_f m c5 (by rw [HPQ.out.1, HPQ.out.2]; exact hpq)
         go_wp2
         go_ret
         exact ⟨by rw [HRES.out, HAB.out.1, HAB.out.2, hres2]; rfl, HB.out.2.1.trans ((HY.out.2.2.trans (H4.out.mono HY.out.2.2.size)).mono (by have := HB.out.2.1.size; omega))⟩
       ·have c5b : ¬ (m : Int) < (n : Int) := by omega
        have hres2 : agree a b n = true := agree_t (fun i hi => HV.out i (by omega))
        have hx2 := (World.cell?_of_block (HR.out.block g (by have := HB.out.2.2.1; have := HY.out.2.2.size; omega))).trans ((World.cell?_of_block (HY.out.2.2.block g (by have := HB.out.2.2.1; omega))).trans HC2.out)
        go_wp2
        go_ret
        refine ⟨?_, HB.out.2.1.trans ((HY.out.2.2.trans (HR.out.mono HY.out.2.2.size)).mono (by have := HB.out.2.1.size; omega))⟩
        rw [HRES.out, HAB.out.1, HAB.out.2, hres2]
        by_cases hq : l.k = k
        ·simp [hq]
        ·have h2 : ¬ l.k.toList = k.toList := fun h => hq (toList_inj.1 h)
         simp [hq, h2]
    ·have e2b : (e == 2) = false := by simp [e2]
     have hres : rightB k n e l = false := by rw [rightB, if_neg e0, if_neg e1]; simp [e2]
     have HRES := Aside0.mk hres
     clear hres
     go_wp2_with (first
      | ((with_reducible refine gate_dst (N := 8) rfl ?_); (refine at_world (w' := wb) HWB.out ?_); rw [← HG.out]))
     go_ret
     exact ⟨by rw [HRES.out]; rfl, HB.out.2.1⟩
 ·have h1b : (256 : Int) < (n : Int) := by omega
  have hres : rightB k n e l = false := by rw [rightB, decide_eq_false h1]; simp
  have HRES := Aside0.mk hres
  clear hres
  go_wp2_with (first
   | ((with_reducible refine gate_dst (N := 8) rfl ?_); (refine at_world (w' := wb) HWB.out ?_); rw [← HG.out]))
  go_ret
  exact ⟨by rw [HRES.out]; rfl, HB.out.2.1⟩
end Go.Proofs.YtanabbjakacgbaaGreatDoor.Sp
namespace Go.Proofs.YtanabbjakacgbaaGreatDoor.Sp
open Go.RowKit Go.Shelf Go.Proofs.YtanabbjakacgbaaGreatDoorW.PrintWords Go.Proofs.YtanabbjakacgbaaGreatDoorW.PrintLast Go.Proofs.YtanabbjakacgbaaGreatDoorW.PrintMore Go.Proofs.YtanabbjakacgbaaGreatDoor.PM Go.Proofs.YtanabbjakacgbaaGreatDoor.Rng
set_option linter.unusedVariables false
set_option linter.unusedSimpArgs false
set_option maxRecDepth 100000
attribute [local go_sem] Oper.semAt_some
def Eb (p : List Sm) (i : Nat) (x : Nat) (vs : Array Value) (W : World) : Prop := vs = #[.int .i64 (x : Int), .agg (cS (p.getD x zS))]
def Sb (gb : Nat) (A : Option Addr) (k : Nat) (o : Obj) : Prop := o.isCells = true ∧ (k = gb ∨ ∃ ad, A = some ad ∧ k = ad.block)
theorem at_S {w : World} {A : Option Addr} {p : List Sm} (h : kS.C w A p.length p) (i : Nat) (hi : i < p.length) : ∃ ad, A = some ad ∧ ∀ j u, (cS (p.getD i zS)).toList[j]? = some u → w.cell? ((ad.add (i * 32)).add j) = some u := by
 obtain ⟨ad, e, hc⟩ := at_flat h zS (i : Int) (by omega) (by omega)
 rw [show ((i : Int).toNat) = i by omega] at hc
 exact ⟨ad, e, hc⟩
theorem add_blk (ad : Addr) (j : Nat) : (ad.add j).block = ad.block := by unfold Addr.add; split <;> rfl
theorem cell_obj {w : World} {ad : Addr} {v : Value} (h : w.cell? ad = some v) : ∃ o, w.heap[ad.block]? = some o ∧ o.isCells = true := by
 unfold World.cell? at h
 cases ho : w.heap[ad.block]? with
 | none => rw [ho] at h; simp at h
 | some o =>
  rw [ho] at h
  refine ⟨o, rfl, ?_⟩
  cases o <;> first | rfl | simp at h
set_option maxHeartbeats 1000000 in
theorem back_gives (m : Nat) (hm : 1 ≤ m) (gb : Nat) (p : List Sm) (A : Option Addr) (c : Nat) (w : World) (hl : p.length ≤ 1000000)
  (hxb : Boxed w gb 28 (.slice A p.length c)) (hr : kS.C w A p.length p) :
  Gives2 Fence.wide m Tryz.prog 83 #[.pointer (some ⟨gb, 0, none⟩)] (Eb p) (Sb gb A) (fun _ => False) ((List.range p.length).reverse) (fun _ => True) w := by
 intro l J W hS hsz hJ hY h0
 have hbW : Boxed W gb 28 (.slice A p.length c) := hS gb _ hxb ⟨rfl, .inl rfl⟩
 have hrW : ∀ (W1 : World), (∀ k o, W.heap[k]? = some o → Sb gb A k o → W1.heap[k]? = some o) → ∀ i, i < p.length → ∃ ad, A = some ad ∧ ∀ j u, (cS (p.getD i zS)).toList[j]? = some u → W1.cell? ((ad.add (i * 32)).add j) = some u := by
  intro W1 h1 i hi
  obtain ⟨ad, e, hc⟩ := at_S hr i hi
  refine ⟨ad, e, fun j u hj => ?_⟩
  have h2 := hc j u hj
  obtain ⟨o, ho, hoc⟩ := cell_obj h2
  rw [add_blk, add_blk] at ho
  have h3 := hS _ _ ho ⟨hoc, .inr ⟨ad, e, rfl⟩⟩
  have h4 := h1 _ _ h3 ⟨hoc, .inr ⟨ad, e, rfl⟩⟩
  exact (World.cell?_of_block (by rw [add_blk, add_blk, h4, ho])).trans h2
 have HIN := Aside0.mk (And.intro hbW hrW)
 have HJ := Aside0.mk hJ
 have HY := Aside0.mk hY
 have hcb := hbW.cell
 clear hbW hrW hxb hr hS hJ hY hsz
 refine callsIn_of_wp Tryz.func83 rfl trivial ?_ rfl
 simp only [Tryz.ntmps83, List.size_toArray, List.length_cons, List.length_nil, Nat.reduceAdd, Nat.reduceSub, Array.replicate_succ, Array.replicate_zero, List.push_toArray, List.append_toArray, List.nil_append, List.cons_append]
 gi_wp2
 gi_loopw [3] (fun v wr => ∃ q : Nat, v = .int .i64 ((q : Int) - 1) ∧ q ≤ p.length ∧ Aside0 (J (p.length - q) wr ∧ (∀ k o, W.heap[k]? = some o → Sb gb A k o → wr.heap[k]? = some o))) (fun v _ => (intOf v + 1).toNat)
 case atStart => exact ⟨p.length, rfl, Nat.le_refl _, ⟨by rw [Nat.sub_self]; exact h0, fun k o h _ => h⟩⟩
 case round =>
  clear hcb h0
  obtain ⟨q, rfl, hq, HR⟩ := hrel
  cases q with
  | zero =>
   have c4 : ¬ ((0 : Int) ≤ ((0 : Nat) : Int) - 1) := by omega
   gi_wp2
   go_end0
   first
    | exact HR.out.1
    | exact ⟨⟨_, rfl⟩, by simpa using HR.out.1, trivial⟩
    | (simpa using HR.out.1)
  | succ q =>
   have K1 : ((q + 1 : Nat) : Int) - 1 = (q : Int) := by omega
   have hqp : q < p.length := by omega
   obtain ⟨ad, eA, hat⟩ := HIN.out.2 wr HR.out.2 q hqp
   subst eA
   obtain ⟨x, hx⟩ : ∃ x, x = p.getD q zS := ⟨_, rfl⟩
   rw [← hx] at hat
   have HX := Aside0.mk hx
   clear hx
   have hl2 : (loadVar 30 (ad.add (q * 32))).run Tryz.prog wr = .ok (.agg (cS x)) wr := le_S hat (Below.refl _ _) 0
   have hb2 : Boxed wr gb 28 (.slice (some ad) p.length c) := HR.out.2 gb _ HIN.out.1 ⟨rfl, .inl rfl⟩
   have hcb := hb2.cell
   have c4a : ((0 : Int) ≤ (q : Int)) = True := eq_true (by omega)
   have c4b : ((q : Int) < (p.length : Int)) = True := eq_true (by omega)
   have HD := Aside0.mk hqp
   rw [K1]
   clear hat hb2 K1 hq hqp
   gi_wp2_with (refine wpListIn_loadv rfl 30 _ rfl _ rfl _ hl2 ?_)
   refine at_named (fun W1 hW1 => ?_)
   subst hW1
   have hget : (List.range p.length).reverse[p.length - (q + 1)]? = some q := by
    have := HD.out
    rw [List.getElem?_reverse (by rw [List.length_range]; omega), List.length_range, List.getElem?_range (by omega)]
    congr 1
    try omega
   obtain ⟨fn, tmps, assign, body, hy, hR⟩ := HY.out (p.length - (q + 1)) q #[.int .i64 (q : Int), .agg (cS x)] W1 hget HR.out.1 (by rw [Eb, HX.out])
   rw [hy, Oper.uponIn_round]
   refine ⟨fun _ => hm, hR.mono ?_⟩
   rintro e W3 ⟨rfl, hJ4, hsz3, hS3⟩
   rw [show p.length - (q + 1) + 1 = p.length - q by have := HD.out; omega] at hJ4
   have H4 := Aside0.mk (And.intro hJ4 (fun k o hk hs => hS3 k o (HR.out.2 k o hk hs) hs : ∀ k o, W.heap[k]? = some o → Sb gb (some ad) k o → W3.heap[k]? = some o))
   clear hJ4 hS3 hy hR hget
   gi_wp2
   go_roundw
   case rel => exact ⟨q, by rw [show wrap64 ((q : Int) - 1) = (q : Int) - 1 by have := HD.out; unfold wrap64; omega], by have := HD.out; omega, H4⟩
   case measure =>
    rw [show wrap64 ((q : Int) - 1) = (q : Int) - 1 by have := HD.out; unfold wrap64; omega]
    simp [intOf]
    try omega
theorem Backward_calls (A : Option Addr) (n c : Nat) (w : World) : Calls Tryz.prog 66 #[.slice A n c] w fun e w' => e = .returned (.func (.func 83) #[] #[.pointer (some ⟨w.heap.size, 0, none⟩)]) ∧ Boxed w' w.heap.size 28 (.slice A n c) ∧ Below w.heap.size w w' := by
 go_enter Tryz.func66, Tryz.ntmps66
 go_wp2
 go_ret
 exact ⟨rfl, Boxed.new w 28 _, below_alloc (Below.refl _ _) _⟩
end Go.Proofs.YtanabbjakacgbaaGreatDoor.Sp
namespace Go.Proofs.YtanabbjakacgbaaGreatDoor.Sp
open Go.RowKit Go.Shelf Go.Proofs.YtanabbjakacgbaaGreatDoorW.PrintWords Go.Proofs.YtanabbjakacgbaaGreatDoorW.PrintLast Go.Proofs.YtanabbjakacgbaaGreatDoorW.PrintMore Go.Proofs.YtanabbjakacgbaaGreatDoor.PM Go.Proofs.YtanabbjakacgbaaGreatDoor.Rng
set_option linter.unusedVariables false
set_option linter.unusedSimpArgs false
set_option maxRecDepth 100000
attribute [local go_sem] Oper.semAt_some
theorem results_row_tmp2 {P : Program} {fn : Func} {p t1 u1 : Tmp} {ty : TypeId} (h : fn.results = #[.cell p ty, .tmp t1, .tmp u1]) (tmps : Array Value) (w : World) (g : Nat) (t : TypeId) (cs : Array Value) (fr : Nat × Nat) (d : TypeDesc)
  (hp : tmps.getD p undef = .pointer (some ⟨g, 0, none⟩)) (hg : w.heap[g]? = some (.cells cs t fr))
  (hu : P.underlying ty = some d) (hd : (match d with | .struct _ | .array _ _ => true | _ => false) = true) (hi : (P.info? ty).map (·.size) = some cs.size) (x y : Value) (hx : tmps.getD t1 undef = x) (hy : tmps.getD u1 undef = y) :
  (results fn tmps).run P w = .ok (.tuple #[.agg cs, x, y]) w := by
 have hp' : tmps[p]?.getD undef = .pointer (some ⟨g, 0, none⟩) := by simpa using hp
 subst hx hy
 simp [results, h, hp', asAddr, run_loadVar_row w g t ty cs fr d hg hu hd hi]
section
variable {F : Fence} {n : Nat} {P : Program} {ops : Array Oper} {Q : Exit → Act → World → Prop} {rest : List Oper} {o : Oper} {a : Act} {w w' : World}
theorem gate_dstIn {N : Tmp} (_hN : o.dst = some N) (h : wpListIn F n P ops Q (o :: rest) a w) : wpListIn F n P ops Q (o :: rest) a w := h
theorem gate_storeIn {t : TypeId} {x y : Operand} (_ho : o.op = .store t x y) (h : wpListIn F n P ops Q (o :: rest) a w) : wpListIn F n P ops Q (o :: rest) a w := h
theorem at_worldIn {l : List Oper} (h : w = w') (H : wpListIn F n P ops Q l a w') : wpListIn F n P ops Q l a w := by rw [h]; exact H
theorem wpListIn_built0 (hg : o.guard = none) (t : TypeId) (ho : o.op = .build t #[]) (cells : Array Value) (hf : P.built t [] = some cells) (h : wpListIn F n P ops Q rest (a.put o.dst (.agg cells)) w) : wpListIn F n P ops Q (o :: rest) a w := by
 refine wpListIn_plain hg fun K hK => ?_
 unfold Oper.wpIn
 refine ⟨by simp [Oper.about, ho], ?_⟩
 have hrun : (execOp a.eval o).run P w = .ok (.value (.agg cells)) w := by
  unfold execOp
  simp only [ho, Sem.run_bind]
  rw [show (Array.map (fun x : Nat × Operand => (x.1, a.eval x.2)) #[]) = #[] from Array.map_empty, run_build w t _ cells hf]
  rfl
 rw [Oper.semAt_plain F _ _ (by rw [ho]; intro c hc'; cases hc'), hrun]
 exact hK _ _ h
theorem wpListIn_str (hg : o.guard = none) (x : Operand) (ho : o.op = .convert 9 53 x) (s : ByteArray) (hx : a.eval x = .string s)
  (h9 : P.underlying 9 = some .string) (h50 : P.underlying 53 = some (.slice 5)) (h5 : P.underlying 5 = some (.int .u8))
  (h : wpListIn F n P ops Q rest (a.put o.dst (.slice (some ⟨w.heap.size, 0, none⟩) s.size (grownCap w s.size 0 5))) (Lib.bytesWorld w 5 s)) : wpListIn F n P ops Q (o :: rest) a w := by
 refine wpListIn_plain hg fun K hK => ?_
 unfold Oper.wpIn
 refine ⟨by simp [Oper.about, ho], ?_⟩
 rw [Oper.semAt_plain F _ _ (by rw [ho]; intro c hc'; cases hc'), str_value x ho s hx h9 h50 h5]
 exact hK _ _ h
theorem wpListIn_neq (hg : o.guard = none) (T T2 : TypeId) (x y : Operand) (ho : o.op = .binOp .neq T x y T2) (xs ys : Array Value) (hx : a.eval x = .agg xs) (hy : a.eval y = .agg ys) (hm : P.eqGuardType P.depth T = false)
  (b : Bool) (hl : ∀ w, (Op.equal T (.agg xs) (.agg ys)).run P w = .ok b w) (h : wpListIn F n P ops Q rest (a.put o.dst (.bool (!b))) w) : wpListIn F n P ops Q (o :: rest) a w := by
 refine wpListIn_plain hg fun K hK => ?_
 unfold Oper.wpIn
 refine ⟨by simp [Oper.about, ho], ?_⟩
 rw [Oper.semAt_plain F _ _ (by rw [ho]; intro c hc'; cases hc'), show (execOp a.eval o).run P w = .ok (.value (.bool (!b))) w from yield_neq T T2 x y ho xs ys hx hy hm (hl w)]
 exact hK _ _ h
end
def upL (s : Sm) : List Sm → Nat → Sm → Sm
 | [], _, now => now
 | o :: p, d, now => if bitI s d = 0 then nodeH (upL s p (d + 1) now) o else nodeH o (upL s p (d + 1) now)
def topOf (k : ByteArray) (p : List Sm) (e : Int) (l : Lf) : Sm := upL (hk k) p 0 (if e = 0 then zS else leafH l)
def checkB (root : Sm) (k : ByteArray) (p : List Sm) (e : Int) (l : Lf) : Sm × Bool × Bool :=
 if rightB k p.length e l = false then (zS, false, false) else if ¬ topOf k p e l = root then (zS, false, false) else if e = 1 then (l.v, true, true) else (zS, false, true)
theorem upL_step (s : Sm) (p : List Sm) (i : Nat) (hi : i < p.length) (now : Sm) : upL s (p.drop i) i now = if bitI s i = 0 then nodeH (upL s (p.drop (i + 1)) (i + 1) now) (p.getD i zS) else nodeH (p.getD i zS) (upL s (p.drop (i + 1)) (i + 1) now) := by
 rw [List.drop_eq_getElem_cons hi, upL, List.getD_eq_getElem?_getD, List.getElem?_eq_getElem hi]
 rfl
theorem cells_P3 {w : World} {g : Nat} {v : Value} {e : Int} {l : Lf} {t : Nat} {fr : Nat × Nat} (hg : w.heap[g]? = some (.cells (cP v e l) t fr)) : ∀ j u, (cS l.v).toList[j]? = some u → w.cell? ((⟨g, 3, none⟩ : Addr).add j) = some u := fun j u hj => by
 have h := at_L1 (ad := ⟨g, 2, none⟩) (cells_P2 hg) j u hj
 exact h
structure CheckI (wy : World) (s now : Sm) (W : World) (g9 : Nat) : Prop where
 now : W.heap[g9 + 1]? = some (.cells (cS now) 30 (0, 0))
 old : ∀ k, k < wy.heap.size → k ≠ g9 + 1 → W.heap[k]? = wy.heap[k]?
 os : W.os = wy.os
 tape : W.tape = wy.tape
 output : W.output = wy.output
 size : wy.heap.size ≤ W.heap.size
theorem CheckI.below {wy W : World} {s now : Sm} {g9 b : Nat} (h : CheckI wy s now W g9) (hb : b ≤ g9) (hz : b ≤ wy.heap.size) : Below b wy W := ⟨h.os, h.tape, h.output, h.size, fun k hk => h.old k (by omega) (by omega)⟩
end Go.Proofs.YtanabbjakacgbaaGreatDoor.Sp

