/- Put together by this session's program out of: Ry. -/
import Derived.Test.YtanabbjakacgbaaGreatDoorM5
namespace Go.Proofs.YtanabbjakacgbaaGreatDoor.Sp
open Go.RowKit Go.Shelf Go.Proofs.YtanabbjakacgbaaGreatDoorW.PrintWords Go.Proofs.YtanabbjakacgbaaGreatDoorW.PrintLast Go.Proofs.YtanabbjakacgbaaGreatDoorW.PrintMore Go.Proofs.YtanabbjakacgbaaGreatDoor.PM Go.Proofs.YtanabbjakacgbaaGreatDoor.Rng
set_option linter.unusedVariables false
set_option linter.unusedSimpArgs false
set_option maxRecDepth 100000
attribute [local go_sem] Oper.semAt_some
set_option maxHeartbeats 1000000 in
theorem Check_calls (root : Sm) (k : ByteArray) (hk1 : k.size ≤ 100000) (A : Option Addr) (p : List Sm) (c : Nat) (hp : p.length ≤ 1000000) (e : Int) (l : Lf) (hl1 : l.k.size ≤ 100000) (w : World) (hW : Words w) (hr : kS.C w A p.length p) :
  Calls Tryz.prog 38 #[.agg (cS root), .string k, .agg (cP (.slice A p.length c) e l)] w fun r w' => r = .returned (.tuple #[.agg (cS (checkB root k p e l).1), .bool (checkB root k p e l).2.1, .bool (checkB root k p e l).2.2]) ∧ Below w.heap.size w w' := by
 have hu27 := Tryz.underlying30
 obtain ⟨g, hg⟩ : ∃ g, g = w.heap.size := ⟨_, rfl⟩
 obtain ⟨C, hC⟩ : ∃ C, C = cP (.slice A p.length c) e l := ⟨_, rfl⟩
 rw [← hC]
 obtain ⟨wb, hwb⟩ : ∃ wb, ((w.alloc (.cells (cS root) 30)).alloc (.cells C 34)).alloc (.cells (cS zS) 30) = wb := ⟨_, rfl⟩
 have h0 : wb.heap[g]? = some (.cells (cS root) 30 (0, 0)) := by rw [← hwb, h_old (by simp only [size_alloc]; omega), h_old (by simp only [size_alloc]; omega)]; exact h_new hg
 have h1 : wb.heap[g + 1]? = some (.cells (cP (.slice A p.length c) e l) 34 (0, 0)) := by rw [← hwb, ← hC, h_old (by simp only [size_alloc]; omega)]; exact h_new (by rw [size_alloc, hg])
 have h2 : wb.heap[g + 2]? = some (.cells (cS zS) 30 (0, 0)) := by rw [← hwb]; exact h_new (by rw [size_alloc, size_alloc, hg])
 have hb : Below w.heap.size w wb := by rw [← hwb]; exact below_alloc (below_alloc (below_alloc (Below.refl _ _) _) _) _
 have hs : wb.heap.size = g + 3 := by rw [← hwb, size_alloc, size_alloc, size_alloc, hg]
 have HB := Aside0.mk (⟨h0, h1, h2, hb, hs, Kd.C_below hr hb, hW.below hb⟩ : _ ∧ _ ∧ _ ∧ _ ∧ _ ∧ _ ∧ _)
 have HWB := Aside0.mk hwb
 have HG := Aside0.mk hg
 have hl2 : (loadVar 34 ⟨g + 1, 0, none⟩).run Tryz.prog wb = .ok (.agg C) wb := by rw [hC]; exact ld_P h1 0
 have hcr := right_calls k (by omega) A p.length c hp e l (by omega) wb (hW.below hb)
 rw [← hC] at hcr
 have HCR := Aside0.mk hcr
 have hbA : ∀ ad, A = some ad → 0 < p.length → ad.block < w.heap.size := fun ad e1 h0 => by
  obtain ⟨ad2, e2, hc2⟩ := at_S hr 0 h0
  obtain rfl := Option.some.inj (e1.symm.trans e2)
  have := World.block_lt_of_cell? w _ (hc2 0 _ (by rw [Array.getElem?_toList, Array.getElem?_eq_getElem (by rw [cS_size]; omega)]))
  rwa [add_blk, add_blk] at this
 have HBA := Aside0.mk hbA
 clear h0 h1 h2 hb hs hwb hr hW hg hC hcr hbA
 refine (callsIn_wide (n := 4)).1 ?_
 refine callsIn_of_wp_marks Tryz.func38 rfl trivial ?_ rfl
 simp only [Tryz.ntmps38, List.size_toArray, List.length_cons, List.length_nil, Nat.reduceAdd, Nat.reduceSub, Array.replicate_succ, Array.replicate_zero, List.push_toArray, List.append_toArray, List.nil_append, List.cons_append]
 by_cases hrt : rightB k p.length e l = false
 ·have HCB := Aside0.mk (show checkB root k p e l = (zS, false, false) by rw [checkB, if_pos hrt])
  gi_wp2_with ((with_reducible refine gate_dstIn (N := 14) rfl ?_); (refine at_worldIn (w' := wb) HWB.out ?_); rw [← HG.out]; (refine wpListIn_loadv rfl 34 _ rfl _ rfl _ hl2 ?_))
  refine ⟨trivial, (callsIn_wide.2 HCR.out).mono ?_⟩
  rw [hrt]
  rintro r w1 ⟨rfl, hb1⟩
  have hg1 := (hb1.block (g + 2) (by have := HB.out.2.2.2.2.1; omega)).trans HB.out.2.2.1
  gi_wp2_with (first
   | ((with_reducible refine gate_dstIn (N := 17) rfl ?_); (refine wpListIn_built0 rfl 30 rfl (cS zS) (by kernel_rfl) ?_))
   | ((with_reducible refine gate_storeIn (t := 30) rfl ?_); (refine wpListIn_store_row rfl 30 (.tmp 6) (.tmp 17) rfl (g + 2) (cS zS) rfl rfl 30 (cS zS) hg1 (by rw [cS_size]; kernel_rfl) rfl (encI_one _) ?_)))
  have hbel3 : Below w.heap.size w (w1.setRow (g + 2) (cS zS)) := below_setRow (HB.out.2.2.2.1.trans (hb1.mono (by have := HB.out.2.2.2.1.size; omega))) (by have := HG.out; omega)
  have hgr3 : (w1.setRow (g + 2) (cS zS)).heap[g + 2]? = some (.cells (cS zS) 30 (0, 0)) := setRow_heap _ _ _ _ _ _ hg1
  refine leaves_marks w.heap.size [] _ (by simp) (by simp) (fun w' hk hz ho ht hou => ⟨_, results_row_tmp2 rfl _ _ (g + 2) 30 _ (0, 0) _ rfl ((hk (g + 2) (by simp)).trans hgr3) hu27 rfl (by rw [cS_size]; kernel_rfl) _ _ rfl rfl, ?_⟩)
  exact ⟨by rw [HCB.out]; rfl, ⟨ho.trans hbel3.os, ht.trans hbel3.tape, hou.trans hbel3.output, by rw [hz]; exact hbel3.size, fun k hk' => (hk k (by simp)).trans (hbel3.block k hk')⟩⟩
 ·have hrt : rightB k p.length e l = true := by simpa using hrt
  have hcb : checkB root k p e l = if ¬ topOf k p e l = root then (zS, false, false) else if e = 1 then (l.v, true, true) else (zS, false, true) := by rw [checkB, hrt]; simp
  obtain ⟨s, hs⟩ : ∃ s, hk k = s := ⟨_, rfl⟩
  have HS := Aside0.mk hs
  have HCB := Aside0.mk hcb
  have HP256 := Aside0.mk (show p.length ≤ 256 by rw [rightB, Bool.and_eq_true] at hrt; simpa using hrt.1)
  have htop : topOf k p e l = upL s p 0 (if e = 0 then zS else leafH l) := by rw [topOf, hs]
  have HTOP := Aside0.mk htop
  clear hs hcb htop
  by_cases e0 : e = 0
  ·have e0b : (e != 0) = false := by simp [e0]
   obtain ⟨now0, hnow⟩ : ∃ x, x = zS := ⟨_, rfl⟩
   have HNOW := Aside0.mk (show upL s p 0 (if e = 0 then zS else leafH l) = upL s p 0 now0 by rw [if_pos e0, hnow])
   have HN0 := Aside0.mk hnow
   clear hnow
   have HE0 := Aside0.mk e0
   clear e0
   obtain ⟨Z, hZ⟩ : ∃ Z, Z = cS zS := ⟨_, rfl⟩
   have HZZ := Aside0.mk hZ
   clear hZ
   gi_wp2_with ((with_reducible refine gate_dstIn (N := 14) rfl ?_); (refine at_worldIn (w' := wb) HWB.out ?_); rw [← HG.out]; (refine wpListIn_loadv rfl 34 _ rfl _ rfl _ hl2 ?_))
   refine ⟨trivial, (callsIn_wide.2 HCR.out).mono ?_⟩
   rw [hrt]
   rintro r w1 ⟨rfl, hb1⟩
   have hW1 := HB.out.2.2.2.2.2.2.below hb1
   gi_wp2_with ((with_reducible refine gate_dstIn (N := 19) rfl ?_); (refine wpListIn_str rfl (.tmp 18) rfl k rfl Tryz.underlying9 Tryz.underlying53 Tryz.underlying5 ?_))
   refine ⟨trivial, (callsIn_wide.2 (sumKm_calls k (by omega) w1 hW1)).mono ?_⟩
   rw [HS.out]
   rintro r w2 ⟨rfl, hb2⟩
   have hb3 : Below wb.heap.size wb w2 := hb1.trans ((below_tr (bytes_below' w1 k) hb2 (bytes_below' w1 k).size).mono hb1.size)
   clear hb1 hb2 hW1
   obtain ⟨wx, hwx⟩ : ∃ wx, (w2.alloc (.cells (cS zS) 30)).alloc (.cells (cS zS) 30) = wx := ⟨_, rfl⟩
   obtain ⟨g9, hg9⟩ : ∃ g9, w2.heap.size = g9 := ⟨_, rfl⟩
   have hx5 : wx.heap[g9]? = some (.cells (cS zS) 30 (0, 0)) := by rw [← hwx, h_old (by rw [size_alloc]; omega)]; exact h_new hg9.symm
   have hx7 : wx.heap[g9 + 1]? = some (.cells (cS zS) 30 (0, 0)) := by rw [← hwx]; exact h_new (by rw [size_alloc]; omega)
   have hbx : Below w2.heap.size w2 wx := by rw [← hwx]; exact below_alloc (below_alloc (Below.refl _ _) _) _
   have HX := Aside0.mk (⟨hwx, hg9, hx5, hx7, hbx⟩ : _ ∧ _ ∧ _ ∧ _ ∧ _)
   clear hwx hg9 hx5 hx7 hbx
   gi_wp2_with (first
    | ((with_reducible refine gate_dstIn (N := 21) rfl ?_); (refine wpListIn_built0 rfl 30 rfl Z (by rw [HZZ.out]; kernel_rfl) ?_))
    | ((with_reducible refine gate_storeIn (t := 30) (x := .tmp 9) rfl ?_); (refine at_worldIn (w' := wx) HX.out.1 ?_); rw [HX.out.2.1]; (refine wpListIn_store_row rfl 30 (.tmp 9) (.tmp 20) rfl g9 (cS s) rfl rfl 30 (cS zS) HX.out.2.2.1 (by rw [cS_size]; kernel_rfl) (by rw [cS_size, cS_size]) (encI_one _) ?_))
    | ((with_reducible refine gate_storeIn (t := 30) (x := .tmp 10) rfl ?_); (refine wpListIn_store_row rfl 30 (.tmp 10) (.tmp 21) rfl (g9 + 1) Z rfl rfl 30 (cS zS) ((setRow_other _ _ _ _ (by omega)).trans HX.out.2.2.2.1) (by rw [HZZ.out, cS_size]; kernel_rfl) (by rw [HZZ.out]) (by rw [HZZ.out]; exact encI_one _) ?_); obtain ⟨wz, hwz⟩ : ∃ wz, (wx.setRow g9 (cS s)).setRow (g9 + 1) Z = wz := ⟨_, rfl⟩; rw [hwz]; have hz9 : wz.heap[g9]? = some (.cells (cS s) 30 (0, 0)) := (by rw [← hwz, setRow_other _ _ _ _ (by omega)]; exact setRow_heap _ _ _ _ _ _ HX.out.2.2.1); have hz10 : wz.heap[g9 + 1]? = some (.cells (cS zS) 30 (0, 0)) := (by rw [← hwz, ← HZZ.out]; exact setRow_heap _ _ _ _ _ _ ((setRow_other _ _ _ _ (by omega)).trans HX.out.2.2.2.1)); have hzb : Below w2.heap.size w2 wz := (by rw [← hwz]; exact below_setRow (below_setRow HX.out.2.2.2.2 (by have := HX.out.2.1; omega)) (by have := HX.out.2.1; omega)); have hwbz : Below wb.heap.size wb wz := hb3.trans (hzb.mono hb3.size); have hze := (World.cell?_of_block (hwbz.block (g + 1) (by have := HB.out.2.2.2.2.1; omega))).trans (cell_P1 HB.out.2.1); have hz0 := (World.cell?_of_block (hwbz.block (g + 1) (by have := HB.out.2.2.2.2.1; omega))).trans (cell_P0 HB.out.2.1); have hgg : g + 3 ≤ g9 := (by have := HX.out.2.1; have := hb3.size; have := HB.out.2.2.2.2.1; omega); have HZ := Aside0.mk (⟨hz9, hz10, hwbz, hgg⟩ : _ ∧ _ ∧ _ ∧ _); clear hwz hz9 hz10 hzb hwbz hb3 hgg))
   obtain ⟨wy, hwy⟩ : ∃ wy, wy = wz := ⟨_, rfl⟩
   rw [← hwy]
   have hy9 : wy.heap[g9]? = some (.cells (cS s) 30 (0, 0)) := by rw [hwy]; exact HZ.out.1
   have hy10 : wy.heap[g9 + 1]? = some (.cells (cS now0) 30 (0, 0)) := by rw [hwy, HN0.out]; exact HZ.out.2.1
   have hyb : Below wb.heap.size wb wy := by rw [hwy]; exact HZ.out.2.2.1
   clear hwy
   have HY := Aside0.mk (⟨hy9, hy10, hyb, HZ.out.2.2.2⟩ : _ ∧ _ ∧ _ ∧ _)
   clear hy9 hy10 hyb
   refine ⟨trivial, (callsIn_wide.2 (Backward_calls A p.length c wy)).mono ?_⟩
   rintro r w5 ⟨rfl, hb5, hb6⟩
   have H5 := Aside0.mk (And.intro hb5 hb6)
   clear hb5 hb6
   have hW5 : Words wy := HB.out.2.2.2.2.2.2.below HY.out.2.2.1
   have hCy : kS.C wy A p.length p := Kd.C_below HB.out.2.2.2.2.2.1 (by have := HY.out.2.2.1; exact this)
   have hgv := back_gives 3 (by omega) wy.heap.size p A c w5 hp H5.out.1 (Kd.C_below hCy H5.out.2)
   have hz9 : g9 + 1 < wy.heap.size := (Array.getElem?_eq_some_iff.1 HY.out.2.1).1
   have hz5 := H5.out.1.lt
   have hgg := HY.out.2.2.2
   have hgs := HB.out.2.2.2.2.1
   have hCI0 : CheckI w5 s now0 w5 g9 := ⟨(H5.out.2.block _ hz9).trans HY.out.2.1, fun k _ _ => rfl, rfl, rfl, rfl, Nat.le_refl _⟩
   have hs5 : w5.heap[g9]? = some (.cells (cS s) 30 (0, 0)) := (H5.out.2.block _ (by omega)).trans HY.out.1
   have hb5w : Below wb.heap.size wb w5 := HY.out.2.2.1.trans (H5.out.2.mono HY.out.2.2.1.size)
   have HW5 := Aside0.mk (⟨hs5, hb5w, HB.out.2.2.2.2.2.2.below hb5w⟩ : _ ∧ _ ∧ _)
   clear hs5 hb5w hW5 hCy
   gi_wp2
   refine rangeOver2 (F := Fence.wide) rfl (by omega) (gf := 83) (lb := #[.pointer (some ⟨wy.heap.size, 0, none⟩)]) rfl trivial (enters_ Tryz.func83 (by kernel_rfl) rfl) (E := Eb p) (S := Sb wy.heap.size A) (T := fun _ => False) (xs := (List.range p.length).reverse) (Post := fun _ => True) hgv
    (fun k o h => h.1) (fun k hk => hk.elim) (fun i x vs W hv => by rw [hv]; rfl)
    (fun i W => CheckI w5 s (upL s (p.drop (p.length - i)) (p.length - i) now0) W g9) ?hI0 (by rw [Nat.sub_zero, List.drop_length, upL]; exact hCI0)
    (fun i x a' W => ∃ b, W.heap[b]? = some (.cells (cS (p.getD x zS)) 30 (0, 0)) ∧ w5.heap.size ≤ b ∧ a' = { tmps := #[.agg (cS root), .string k, .agg C, .pointer (some ⟨g, 0, none⟩), undef, .pointer (some ⟨g + 1, 0, none⟩), .pointer (some ⟨g + 1 + 1, 0, none⟩), .bool false, .bool false, .pointer (some ⟨g9, 0, none⟩), .pointer (some ⟨g9 + 1, 0, none⟩), .int .i64 (x : Int), .pointer (some ⟨b, 0, none⟩), .string k, .agg C, .bool true, .bool false, undef, .string k, .slice (some ⟨w1.heap.size, 0, none⟩) k.size (grownCap w1 k.size 0 5), .agg (cS s), .agg Z, .pointer (some ⟨g + 1, 1, none⟩), .int .i64 e, .bool false, undef, undef, undef, .pointer (some ⟨g + 1, 0, none⟩), .slice A p.length c, .func (.func 83) #[] #[.pointer (some ⟨wy.heap.size, 0, none⟩)], .int .i64 (x : Int), .agg (cS (p.getD x zS)), undef, undef, undef, undef, undef, undef, undef, undef, undef, undef, undef, undef, undef, undef, undef, undef, undef, undef, undef, undef, undef], defers := [] })
    ?hAx0 ?hassign0 ?hbody0 ?hdone0
   case hI0 =>
    rintro i X Y h hs
    have key : ∀ (k : Nat) (o : Obj), X.heap[k]? = some o → o.isCells = true → Y.heap[k]? = some o := fun k o hk ho => (hs.same k (Array.getElem?_eq_some_iff.1 hk).1 (fun h' => by
     rcases h' with h' | ⟨_, o', ho', hoc⟩
     ·exact h'
     ·rw [hk] at ho'; cases ho'; rw [ho] at hoc; cases hoc)).trans hk
    refine ⟨key _ _ h.now rfl, fun k hk hne => ?_, hs.os.trans h.os, hs.tape.trans h.tape, hs.output.trans h.output, Nat.le_trans h.size hs.size⟩
    exact (hs.same k (Nat.lt_of_lt_of_le hk h.size) (fun h' => by
     rcases h' with h' | ⟨h6, _⟩
     ·exact h'
     ·omega)).trans (h.old k hk hne)
   case hAx0 =>
    rintro i x a' X Y ⟨b, h1, h2, rfl⟩ hs
    refine ⟨b, (hs.same b (Array.getElem?_eq_some_iff.1 h1).1 (fun h' => ?_)).trans h1, h2, rfl⟩
    rcases h' with h' | ⟨_, o', ho', hoc⟩
    ·exact h'
    ·rw [h1] at ho'; cases ho'; cases hoc
   case hassign0 =>
    rintro lp i x vs W K hx hCI hv hsz hK
    rw [hv]
    obtain ⟨o, ho⟩ : ∃ o, p.getD x zS = o := ⟨_, rfl⟩
    rw [ho] at hK ⊢
    simp only [List.zip_toArray, List.zip_cons_cons, List.zip_nil_right, List.foldl_toArray', List.foldl_cons, List.foldl_nil]
    have hnew : ∀ k, k < W.heap.size → ((W.alloc (.cells (cS zS) 30)).setRow W.heap.size (cS o)).heap[k]? = W.heap[k]? := fun k hk => (setRow_other _ _ _ _ (by omega)).trans (h_old hk)
    have hzn : ((W.alloc (.cells (cS zS) 30)).setRow W.heap.size (cS o)).heap.size = W.heap.size + 1 := by rw [size_setRow, size_alloc]
    have HN := Aside0.mk (And.intro hnew hzn)
    have HO := Aside0.mk ho
    clear hnew hzn ho
    gi_wp2_with ((with_reducible refine gate_storeIn (t := 30) (x := .tmp 12) rfl ?_); (refine at_worldIn (w' := W.alloc (.cells (cS zS) 30)) (zw W).symm ?_); (refine wpListIn_store_row rfl 30 (.tmp 12) (.tmp 32) rfl W.heap.size (cS o) rfl rfl 30 (cS zS) (h_new rfl) (by rw [cS_size]; kernel_rfl) (by rw [cS_size, cS_size]) (encI_one _) ?_))
    refine hK _ _ ⟨by rw [HN.out.2]; omega, fun k o' _ hk _ => (HN.out.1 k (Array.getElem?_eq_some_iff.1 hk).1).trans hk⟩ (fun k o' hk _ => (HN.out.1 k (Array.getElem?_eq_some_iff.1 hk).1).trans hk) ?_ ⟨W.heap.size, setRow_heap _ _ _ _ _ _ (h_new rfl), hsz, rfl⟩
    exact ⟨(HN.out.1 _ (Array.getElem?_eq_some_iff.1 hCI.now).1).trans hCI.now, fun k hk hne => (HN.out.1 k (Nat.lt_of_lt_of_le hk hCI.size)).trans (hCI.old k hk hne), hCI.os, hCI.tape, hCI.output, by rw [HN.out.2]; have := hCI.size; omega⟩
   case hbody0 =>
    rintro lp i x a' W hlp hloop hx hCI ⟨b, hb, hbs, rfl⟩ hsz
    have hil : i < p.length := by have := (List.getElem?_eq_some_iff.1 hx).1; simpa using this
    have hxi : x = p.length - (i + 1) := by
     rw [List.getElem?_reverse (by rw [List.length_range]; exact hil), List.length_range, List.getElem?_range (by omega)] at hx
     have := Option.some.inj hx
     omega
    have hx1 : x < p.length := by omega
    have hx2 : x < 256 := by have := HP256.out; omega
    obtain ⟨o, ho⟩ : ∃ o, p.getD x zS = o := ⟨_, rfl⟩
    obtain ⟨cur, hcur⟩ : ∃ t, upL s (p.drop (x + 1)) (x + 1) now0 = t := ⟨_, rfl⟩
    obtain ⟨β, hβ⟩ : ∃ β, bitI s x = β := ⟨_, rfl⟩
    have hst := upL_step s p x hx1 now0
    rw [hβ, ho, hcur] at hst
    rw [show p.length - i = x + 1 by omega, hcur] at hCI
    rw [show p.length - (i + 1) = x by omega]
    rw [ho] at hb
    have HST := Aside0.mk (And.intro hst hβ)
    have h9 : W.heap[g9]? = some (.cells (cS s) 30 (0, 0)) := (hCI.old g9 (by omega) (by omega)).trans HW5.out.1
    have hWW : Words W := ⟨(hCI.old 0 (by omega) (by omega)).trans HW5.out.2.2.1, by have := hCI.size; omega⟩
    have HWW := Aside0.mk hWW
    have hls : (loadVar 30 ⟨g9, 0, none⟩).run Tryz.prog W = .ok (.agg (cS s)) W := ld_S h9 0
    clear hWW h9 hst hβ hcur ho hx hil hxi
    gi_wp2_with ((with_reducible refine gate_dstIn (N := 33) rfl ?_); refine wpListIn_loadv rfl 30 _ rfl _ rfl _ hls ?_)
    refine ⟨trivial, (CallsIn.inRound _ (callsIn_wide.2 (bitm_calls s x hx2 W))).mono ?_⟩
    rw [HST.out.2]
    rintro r w6 ⟨rfl, hb6⟩
    clear hls
    have hst := HST.out.1
    by_cases hbt : β = 0
    ·subst hbt
     rw [if_pos rfl] at hst
     obtain ⟨nx, hnx⟩ : ∃ t, nodeH cur o = t := ⟨_, rfl⟩
     rw [hnx] at hst
     have HNX := Aside0.mk (And.intro hst hnx)
     clear hst hnx
     have hlc : (loadVar 30 ⟨g9 + 1, 0, none⟩).run Tryz.prog w6 = .ok (.agg (cS cur)) w6 := ld_S ((hb6.block _ (Array.getElem?_eq_some_iff.1 hCI.now).1).trans hCI.now) 0
     have hlo : (loadVar 30 ⟨b, 0, none⟩).run Tryz.prog w6 = .ok (.agg (cS o)) w6 := ld_S ((hb6.block _ (Array.getElem?_eq_some_iff.1 hb).1).trans hb) 0
     gi_wp2_with (first
      | ((with_reducible refine gate_dstIn (N := 37) rfl ?_); refine wpListIn_loadv rfl 30 _ rfl _ rfl _ hlc ?_)
      | ((with_reducible refine gate_dstIn (N := 38) rfl ?_); refine wpListIn_loadv rfl 30 _ rfl _ rfl _ hlo ?_))
     refine ⟨trivial, (CallsIn.inRound _ (callsIn_wide.2 (nodem_calls cur o w6 (HWW.out.below hb6)))).mono ?_⟩
     rw [HNX.out.2]
     rintro r w7 ⟨rfl, hb7⟩
     have hb8 := hb6.trans (hb7.mono hb6.size)
     have h710 := (hb8.block _ (Array.getElem?_eq_some_iff.1 hCI.now).1).trans hCI.now
     gi_wp2_with ((with_reducible refine gate_storeIn (t := 30) (x := .tmp 10) rfl ?_); (refine wpListIn_store_row rfl 30 (.tmp 10) (.tmp 39) rfl (g9 + 1) (cS nx) rfl rfl 30 (cS cur) h710 (by rw [cS_size]; kernel_rfl) (by rw [cS_size, cS_size]) (encI_one _) ?_))
     have hk1 : ∀ k, k < W.heap.size → k ≠ g9 + 1 → (w7.setRow (g9 + 1) (cS nx)).heap[k]? = W.heap[k]? := fun k hk hne => (setRow_other _ _ _ _ hne).trans (hb8.block k hk)
     have hz7 := hb8.size
     have hzr : (w7.setRow (g9 + 1) (cS nx)).heap.size = w7.heap.size := size_setRow _ _ _
     refine ⟨⟨by omega, fun k o' _ hk hoc => (hk1 k (Array.getElem?_eq_some_iff.1 hk).1 (fun e1 => ?_)).trans hk⟩, fun k o' hk hS => (hk1 k (Array.getElem?_eq_some_iff.1 hk).1 (fun e1 => ?_)).trans hk, ?_⟩
     ·rw [e1, hCI.now] at hk; cases hk; cases hoc
     ·rcases hS.2 with h | ⟨ad, eA, h⟩
      ·omega
      ·have := HBA.out ad eA (by omega)
       have := HG.out
       omega
     ·rw [HNX.out.1]
      exact ⟨setRow_heap _ _ _ _ _ _ h710, fun k hk hne => (hk1 k (Nat.lt_of_lt_of_le hk hCI.size) hne).trans (hCI.old k hk hne), hb8.os.trans hCI.os, hb8.tape.trans hCI.tape, hb8.output.trans hCI.output, by have := hCI.size; omega⟩
    ·have hbt2 : (β == 0) = false := by simp [hbt]
     rw [if_neg hbt] at hst
     obtain ⟨nx, hnx⟩ : ∃ t, nodeH o cur = t := ⟨_, rfl⟩
     rw [hnx] at hst
     have HNX := Aside0.mk (And.intro hst hnx)
     clear hst hnx
     have hlc : (loadVar 30 ⟨g9 + 1, 0, none⟩).run Tryz.prog w6 = .ok (.agg (cS cur)) w6 := ld_S ((hb6.block _ (Array.getElem?_eq_some_iff.1 hCI.now).1).trans hCI.now) 0
     have hlo : (loadVar 30 ⟨b, 0, none⟩).run Tryz.prog w6 = .ok (.agg (cS o)) w6 := ld_S ((hb6.block _ (Array.getElem?_eq_some_iff.1 hb).1).trans hb) 0
     gi_wp2_with (first
      | ((with_reducible refine gate_dstIn (N := 40) rfl ?_); refine wpListIn_loadv rfl 30 _ rfl _ rfl _ hlo ?_)
      | ((with_reducible refine gate_dstIn (N := 41) rfl ?_); refine wpListIn_loadv rfl 30 _ rfl _ rfl _ hlc ?_))
     refine ⟨trivial, (CallsIn.inRound _ (callsIn_wide.2 (nodem_calls o cur w6 (HWW.out.below hb6)))).mono ?_⟩
     rw [HNX.out.2]
     rintro r w7 ⟨rfl, hb7⟩
     have hb8 := hb6.trans (hb7.mono hb6.size)
     have h710 := (hb8.block _ (Array.getElem?_eq_some_iff.1 hCI.now).1).trans hCI.now
     gi_wp2_with ((with_reducible refine gate_storeIn (t := 30) (x := .tmp 10) rfl ?_); (refine wpListIn_store_row rfl 30 (.tmp 10) (.tmp 42) rfl (g9 + 1) (cS nx) rfl rfl 30 (cS cur) h710 (by rw [cS_size]; kernel_rfl) (by rw [cS_size, cS_size]) (encI_one _) ?_))
     have hk1 : ∀ k, k < W.heap.size → k ≠ g9 + 1 → (w7.setRow (g9 + 1) (cS nx)).heap[k]? = W.heap[k]? := fun k hk hne => (setRow_other _ _ _ _ hne).trans (hb8.block k hk)
     have hz7 := hb8.size
     have hzr : (w7.setRow (g9 + 1) (cS nx)).heap.size = w7.heap.size := size_setRow _ _ _
     refine ⟨⟨by omega, fun k o' _ hk hoc => (hk1 k (Array.getElem?_eq_some_iff.1 hk).1 (fun e1 => ?_)).trans hk⟩, fun k o' hk hS => (hk1 k (Array.getElem?_eq_some_iff.1 hk).1 (fun e1 => ?_)).trans hk, ?_⟩
     ·rw [e1, hCI.now] at hk; cases hk; cases hoc
     ·rcases hS.2 with h | ⟨ad, eA, h⟩
      ·omega
      ·have := HBA.out ad eA (by omega)
       have := HG.out
       omega
     ·rw [HNX.out.1]
      exact ⟨setRow_heap _ _ _ _ _ _ h710, fun k hk hne => (hk1 k (Nat.lt_of_lt_of_le hk hCI.size) hne).trans (hCI.old k hk hne), hb8.os.trans hCI.os, hb8.tape.trans hCI.tape, hb8.output.trans hCI.output, by have := hCI.size; omega⟩
   case hdone0 =>
    rintro D W W' hD _ hA hCI hsz hDd
    rw [List.length_reverse, List.length_range, Nat.sub_self, List.drop_zero] at hCI
    obtain ⟨T, hT⟩ : ∃ T, upL s p 0 now0 = T := ⟨_, rfl⟩
    rw [hT] at hCI
    have htp : topOf k p e l = T := by rw [HTOP.out, HNOW.out, hT]
    have hcb := HCB.out
    rw [htp] at hcb
    have hB := hCI.below (b := wb.heap.size) (by omega) (by have := HW5.out.2.1.size; omega)
    have hbel : Below wb.heap.size wb W' := HW5.out.2.1.trans hB
    have h0 := (hbel.block g (by omega)).trans HB.out.1
    have h1 := (hbel.block (g + 1) (by omega)).trans HB.out.2.1
    have h2 := (hbel.block (g + 2) (by omega)).trans HB.out.2.2.1
    have hlt : (loadVar 30 ⟨g9 + 1, 0, none⟩).run Tryz.prog W' = .ok (.agg (cS T)) W' := ld_S hCI.now 0
    have hlr : (loadVar 30 ⟨g, 0, none⟩).run Tryz.prog W' = .ok (.agg (cS root)) W' := ld_S h0 0
    have hlv : (loadVar 30 ⟨g + 1, 3, none⟩).run Tryz.prog W' = .ok (.agg (cS l.v)) W' := le_S (cells_P3 h1) (Below.refl _ _) 0
    have hce := cell_P1 h1
    have HDD := Aside0.mk (⟨by omega, hDd⟩ : g + 2 < D ∧ _)
    have HF := Aside0.mk (⟨HB.out.2.2.2.1.trans (hbel.mono (by have := HB.out.2.2.2.1.size; omega)), h2⟩ : _ ∧ _)
    have HCB2 := Aside0.mk hcb
    clear hcb htp hT hB hbel h0 h1 h2 hCI hA hDd hgv hCI0 hD
    by_cases hrr : T = root
    ·have hd : decide (T = root) = true := by simp [hrr]
     have hcb2 : checkB root k p e l = if e = 1 then (l.v, true, true) else (zS, false, true) := by rw [HCB2.out, if_neg (fun h => h hrr)]
     have HCB3 := Aside0.mk hcb2
     clear hcb2 hrr
     by_cases e1 : e = 1
     ·have hcb3 : checkB root k p e l = (l.v, true, true) := by rw [HCB3.out, if_pos e1]
      have HCB4 := Aside0.mk hcb3
      have e1b : (e == 1) = true := by simp [e1]
      obtain ⟨V, hV⟩ : ∃ V, V = cS l.v := ⟨_, rfl⟩
      rw [← hV] at hlv
      have HLV := Aside0.mk hV
      clear hcb3 hV e1
      gi_wp2_with (first
       | ((with_reducible refine gate_dstIn (N := 43) rfl ?_); refine wpListIn_loadv rfl 30 _ rfl _ rfl _ hlt ?_)
       | ((with_reducible refine gate_dstIn (N := 44) rfl ?_); refine wpListIn_loadv rfl 30 _ rfl _ rfl _ hlr ?_)
       | (refine wpListIn_neq rfl _ _ _ _ rfl _ _ rfl rfl gt_S true (fun w => by rw [← hd]; exact eqS w _ _) ?_)
       | ((with_reducible refine gate_dstIn (N := 52) rfl ?_); refine wpListIn_loadv rfl 30 _ rfl _ rfl _ hlv ?_)
       | ((with_reducible refine gate_storeIn (t := 30) (x := .tmp 6) rfl ?_); (refine wpListIn_store_row rfl 30 (.tmp 6) (.tmp 52) rfl (g + 2) V rfl rfl 30 (cS zS) HF.out.2 (by rw [HLV.out, cS_size]; kernel_rfl) (by rw [HLV.out, cS_size, cS_size]) (by rw [HLV.out]; exact encI_one _) ?_)))
      have hbel3 : Below w.heap.size w (W'.setRow (g + 2) V) := below_setRow HF.out.1 (by have := HG.out; omega)
      have hgr3 : (W'.setRow (g + 2) V).heap[g + 2]? = some (.cells (cS l.v) 30 (0, 0)) := by rw [← HLV.out]; exact setRow_heap _ _ _ _ _ _ HF.out.2
      refine leaves_marks w.heap.size [D] _ (by simp) (fun D' hD' => by rw [List.mem_singleton.1 hD']; exact ⟨by have := HDD.out.1; have := HG.out; omega, (setRow_other _ _ _ _ (by have := HDD.out.1; omega)).trans HDD.out.2⟩) (fun w' hk hz ho ht hou => ⟨_, results_row_tmp2 rfl _ _ (g + 2) 30 _ (0, 0) _ rfl ((hk (g + 2) (by have := HDD.out.1; simp; omega)).trans hgr3) hu27 rfl (by rw [cS_size]; kernel_rfl) _ _ rfl rfl, ?_⟩)
      exact ⟨by rw [HCB4.out]; rfl, ⟨ho.trans hbel3.os, ht.trans hbel3.tape, hou.trans hbel3.output, by rw [hz]; exact hbel3.size, fun k hk' => (hk k (by have := HDD.out.1; have := HG.out; simp; omega)).trans (hbel3.block k hk')⟩⟩
     ·have hcb3 : checkB root k p e l = (zS, false, true) := by rw [HCB3.out, if_neg e1]
      have HCB4 := Aside0.mk hcb3
      have e1b : (e == 1) = false := by simp [e1]
      clear hcb3 e1
      gi_wp2_with (first
       | ((with_reducible refine gate_dstIn (N := 43) rfl ?_); refine wpListIn_loadv rfl 30 _ rfl _ rfl _ hlt ?_)
       | ((with_reducible refine gate_dstIn (N := 44) rfl ?_); refine wpListIn_loadv rfl 30 _ rfl _ rfl _ hlr ?_)
       | (refine wpListIn_neq rfl _ _ _ _ rfl _ _ rfl rfl gt_S true (fun w => by rw [← hd]; exact eqS w _ _) ?_)
       | ((with_reducible refine gate_dstIn (N := 53) rfl ?_); (refine wpListIn_built0 rfl 30 rfl Z (by rw [HZZ.out]; kernel_rfl) ?_))
       | ((with_reducible refine gate_storeIn (t := 30) (x := .tmp 6) rfl ?_); (refine wpListIn_store_row rfl 30 (.tmp 6) (.tmp 53) rfl (g + 2) Z rfl rfl 30 (cS zS) HF.out.2 (by rw [HZZ.out, cS_size]; kernel_rfl) (by rw [HZZ.out]) (by rw [HZZ.out]; exact encI_one _) ?_)))
      have hbel3 : Below w.heap.size w (W'.setRow (g + 2) Z) := below_setRow HF.out.1 (by have := HG.out; omega)
      have hgr3 : (W'.setRow (g + 2) Z).heap[g + 2]? = some (.cells (cS zS) 30 (0, 0)) := by rw [← HZZ.out]; exact setRow_heap _ _ _ _ _ _ HF.out.2
      refine leaves_marks w.heap.size [D] _ (by simp) (fun D' hD' => by rw [List.mem_singleton.1 hD']; exact ⟨by have := HDD.out.1; have := HG.out; omega, (setRow_other _ _ _ _ (by have := HDD.out.1; omega)).trans HDD.out.2⟩) (fun w' hk hz ho ht hou => ⟨_, results_row_tmp2 rfl _ _ (g + 2) 30 _ (0, 0) _ rfl ((hk (g + 2) (by have := HDD.out.1; simp; omega)).trans hgr3) hu27 rfl (by rw [cS_size]; kernel_rfl) _ _ rfl rfl, ?_⟩)
      exact ⟨by rw [HCB4.out]; rfl, ⟨ho.trans hbel3.os, ht.trans hbel3.tape, hou.trans hbel3.output, by rw [hz]; exact hbel3.size, fun k hk' => (hk k (by have := HDD.out.1; have := HG.out; simp; omega)).trans (hbel3.block k hk')⟩⟩
    ·have hd : decide (T = root) = false := by simp [hrr]
     have hcb2 : checkB root k p e l = (zS, false, false) := by rw [HCB2.out, if_pos hrr]
     have HCB3 := Aside0.mk hcb2
     clear hcb2 hrr
     gi_wp2_with (first
      | ((with_reducible refine gate_dstIn (N := 43) rfl ?_); refine wpListIn_loadv rfl 30 _ rfl _ rfl _ hlt ?_)
      | ((with_reducible refine gate_dstIn (N := 44) rfl ?_); refine wpListIn_loadv rfl 30 _ rfl _ rfl _ hlr ?_)
      | (refine wpListIn_neq rfl _ _ _ _ rfl _ _ rfl rfl gt_S false (fun w => by rw [← hd]; exact eqS w _ _) ?_)
      | ((with_reducible refine gate_dstIn (N := 46) rfl ?_); (refine wpListIn_built0 rfl 30 rfl Z (by rw [HZZ.out]; kernel_rfl) ?_))
      | ((with_reducible refine gate_storeIn (t := 30) (x := .tmp 6) rfl ?_); (refine wpListIn_store_row rfl 30 (.tmp 6) (.tmp 46) rfl (g + 2) Z rfl rfl 30 (cS zS) HF.out.2 (by rw [HZZ.out, cS_size]; kernel_rfl) (by rw [HZZ.out]) (by rw [HZZ.out]; exact encI_one _) ?_)))
     have hbel3 : Below w.heap.size w (W'.setRow (g + 2) Z) := below_setRow HF.out.1 (by have := HG.out; omega)
     have hgr3 : (W'.setRow (g + 2) Z).heap[g + 2]? = some (.cells (cS zS) 30 (0, 0)) := by rw [← HZZ.out]; exact setRow_heap _ _ _ _ _ _ HF.out.2
     refine leaves_marks w.heap.size [D] _ (by simp) (fun D' hD' => by rw [List.mem_singleton.1 hD']; exact ⟨by have := HDD.out.1; have := HG.out; omega, (setRow_other _ _ _ _ (by have := HDD.out.1; omega)).trans HDD.out.2⟩) (fun w' hk hz ho ht hou => ⟨_, results_row_tmp2 rfl _ _ (g + 2) 30 _ (0, 0) _ rfl ((hk (g + 2) (by have := HDD.out.1; simp; omega)).trans hgr3) hu27 rfl (by rw [cS_size]; kernel_rfl) _ _ rfl rfl, ?_⟩)
     exact ⟨by rw [HCB3.out]; rfl, ⟨ho.trans hbel3.os, ht.trans hbel3.tape, hou.trans hbel3.output, by rw [hz]; exact hbel3.size, fun k hk' => (hk k (by have := HDD.out.1; have := HG.out; simp; omega)).trans (hbel3.block k hk')⟩⟩
  ·have e0b : (e != 0) = true := by simp [e0]
   obtain ⟨now0, hnow⟩ : ∃ x, x = leafH l := ⟨_, rfl⟩
   have HNOW := Aside0.mk (show upL s p 0 (if e = 0 then zS else leafH l) = upL s p 0 now0 by rw [if_neg e0, hnow])
   have HN0 := Aside0.mk hnow
   clear hnow
   have HE0 := Aside0.mk e0
   clear e0
   obtain ⟨Z, hZ⟩ : ∃ Z, Z = cS zS := ⟨_, rfl⟩
   have HZZ := Aside0.mk hZ
   clear hZ
   gi_wp2_with ((with_reducible refine gate_dstIn (N := 14) rfl ?_); (refine at_worldIn (w' := wb) HWB.out ?_); rw [← HG.out]; (refine wpListIn_loadv rfl 34 _ rfl _ rfl _ hl2 ?_))
   refine ⟨trivial, (callsIn_wide.2 HCR.out).mono ?_⟩
   rw [hrt]
   rintro r w1 ⟨rfl, hb1⟩
   have hW1 := HB.out.2.2.2.2.2.2.below hb1
   gi_wp2_with ((with_reducible refine gate_dstIn (N := 19) rfl ?_); (refine wpListIn_str rfl (.tmp 18) rfl k rfl Tryz.underlying9 Tryz.underlying53 Tryz.underlying5 ?_))
   refine ⟨trivial, (callsIn_wide.2 (sumKm_calls k (by omega) w1 hW1)).mono ?_⟩
   rw [HS.out]
   rintro r w2 ⟨rfl, hb2⟩
   have hb3 : Below wb.heap.size wb w2 := hb1.trans ((below_tr (bytes_below' w1 k) hb2 (bytes_below' w1 k).size).mono hb1.size)
   clear hb1 hb2 hW1
   obtain ⟨wx, hwx⟩ : ∃ wx, (w2.alloc (.cells (cS zS) 30)).alloc (.cells (cS zS) 30) = wx := ⟨_, rfl⟩
   obtain ⟨g9, hg9⟩ : ∃ g9, w2.heap.size = g9 := ⟨_, rfl⟩
   have hx5 : wx.heap[g9]? = some (.cells (cS zS) 30 (0, 0)) := by rw [← hwx, h_old (by rw [size_alloc]; omega)]; exact h_new hg9.symm
   have hx7 : wx.heap[g9 + 1]? = some (.cells (cS zS) 30 (0, 0)) := by rw [← hwx]; exact h_new (by rw [size_alloc]; omega)
   have hbx : Below w2.heap.size w2 wx := by rw [← hwx]; exact below_alloc (below_alloc (Below.refl _ _) _) _
   have HX := Aside0.mk (⟨hwx, hg9, hx5, hx7, hbx⟩ : _ ∧ _ ∧ _ ∧ _ ∧ _)
   clear hwx hg9 hx5 hx7 hbx
   gi_wp2_with (first
    | ((with_reducible refine gate_dstIn (N := 21) rfl ?_); (refine wpListIn_built0 rfl 30 rfl Z (by rw [HZZ.out]; kernel_rfl) ?_))
    | ((with_reducible refine gate_storeIn (t := 30) (x := .tmp 9) rfl ?_); (refine at_worldIn (w' := wx) HX.out.1 ?_); rw [HX.out.2.1]; (refine wpListIn_store_row rfl 30 (.tmp 9) (.tmp 20) rfl g9 (cS s) rfl rfl 30 (cS zS) HX.out.2.2.1 (by rw [cS_size]; kernel_rfl) (by rw [cS_size, cS_size]) (encI_one _) ?_))
    | ((with_reducible refine gate_storeIn (t := 30) (x := .tmp 10) rfl ?_); (refine wpListIn_store_row rfl 30 (.tmp 10) (.tmp 21) rfl (g9 + 1) Z rfl rfl 30 (cS zS) ((setRow_other _ _ _ _ (by omega)).trans HX.out.2.2.2.1) (by rw [HZZ.out, cS_size]; kernel_rfl) (by rw [HZZ.out]) (by rw [HZZ.out]; exact encI_one _) ?_); obtain ⟨wz, hwz⟩ : ∃ wz, (wx.setRow g9 (cS s)).setRow (g9 + 1) Z = wz := ⟨_, rfl⟩; rw [hwz]; have hz9 : wz.heap[g9]? = some (.cells (cS s) 30 (0, 0)) := (by rw [← hwz, setRow_other _ _ _ _ (by omega)]; exact setRow_heap _ _ _ _ _ _ HX.out.2.2.1); have hz10 : wz.heap[g9 + 1]? = some (.cells (cS zS) 30 (0, 0)) := (by rw [← hwz, ← HZZ.out]; exact setRow_heap _ _ _ _ _ _ ((setRow_other _ _ _ _ (by omega)).trans HX.out.2.2.2.1)); have hzb : Below w2.heap.size w2 wz := (by rw [← hwz]; exact below_setRow (below_setRow HX.out.2.2.2.2 (by have := HX.out.2.1; omega)) (by have := HX.out.2.1; omega)); have hwbz : Below wb.heap.size wb wz := hb3.trans (hzb.mono hb3.size); have hze := (World.cell?_of_block (hwbz.block (g + 1) (by have := HB.out.2.2.2.2.1; omega))).trans (cell_P1 HB.out.2.1); have hz0 := (World.cell?_of_block (hwbz.block (g + 1) (by have := HB.out.2.2.2.2.1; omega))).trans (cell_P0 HB.out.2.1); have hgg : g + 3 ≤ g9 := (by have := HX.out.2.1; have := hb3.size; have := HB.out.2.2.2.2.1; omega); have HZ := Aside0.mk (⟨hz9, hz10, hwbz, hgg⟩ : _ ∧ _ ∧ _ ∧ _); clear hwz hz9 hz10 hzb hwbz hb3 hgg)
    | ((with_reducible refine gate_dstIn (N := 26) rfl ?_); refine wpListIn_loadv rfl 32 _ rfl _ rfl _ (le_L (cells_P2 ((HZ.out.2.2.1.block (g + 1) (by have := HB.out.2.2.2.2.1; omega)).trans HB.out.2.1)) (Below.refl _ _) 0) ?_))
   refine ⟨trivial, (callsIn_wide.2 (leafm_calls l hl1 wz (HB.out.2.2.2.2.2.2.below HZ.out.2.2.1))).mono ?_⟩
   rw [← HN0.out]
   rintro r w4 ⟨rfl, hb4⟩
   have h410 := (hb4.block (g9 + 1) (Array.getElem?_eq_some_iff.1 HZ.out.2.1).1).trans HZ.out.2.1
   gi_wp2_with ((with_reducible refine gate_storeIn (t := 30) (x := .tmp 10) rfl ?_); (refine wpListIn_store_row rfl 30 (.tmp 10) (.tmp 27) rfl (g9 + 1) (cS now0) rfl rfl 30 (cS zS) h410 (by rw [cS_size]; kernel_rfl) (by rw [cS_size, cS_size]) (encI_one _) ?_); obtain ⟨wy, hwy⟩ : ∃ wy, w4.setRow (g9 + 1) (cS now0) = wy := ⟨_, rfl⟩; rw [hwy]; have hy9 : wy.heap[g9]? = some (.cells (cS s) 30 (0, 0)) := (by rw [← hwy, setRow_other _ _ _ _ (by omega)]; exact (hb4.block g9 (Array.getElem?_eq_some_iff.1 HZ.out.1).1).trans HZ.out.1); have hy10 : wy.heap[g9 + 1]? = some (.cells (cS now0) 30 (0, 0)) := (by rw [← hwy]; exact setRow_heap _ _ _ _ _ _ h410); have hyb : Below wb.heap.size wb wy := (by rw [← hwy]; exact below_setRow (HZ.out.2.2.1.trans (hb4.mono HZ.out.2.2.1.size)) (by have := HZ.out.2.2.2; have := HB.out.2.2.2.2.1; omega)); have hy0 := (World.cell?_of_block (hyb.block (g + 1) (by have := HB.out.2.2.2.2.1; omega))).trans (cell_P0 HB.out.2.1); clear hwy h410 hb4)
   have HY := Aside0.mk (⟨hy9, hy10, hyb, HZ.out.2.2.2⟩ : _ ∧ _ ∧ _ ∧ _)
   clear hy9 hy10 hyb
   refine ⟨trivial, (callsIn_wide.2 (Backward_calls A p.length c wy)).mono ?_⟩
   rintro r w5 ⟨rfl, hb5, hb6⟩
   have H5 := Aside0.mk (And.intro hb5 hb6)
   clear hb5 hb6
   have hW5 : Words wy := HB.out.2.2.2.2.2.2.below HY.out.2.2.1
   have hCy : kS.C wy A p.length p := Kd.C_below HB.out.2.2.2.2.2.1 (by have := HY.out.2.2.1; exact this)
   have hgv := back_gives 3 (by omega) wy.heap.size p A c w5 hp H5.out.1 (Kd.C_below hCy H5.out.2)
   have hz9 : g9 + 1 < wy.heap.size := (Array.getElem?_eq_some_iff.1 HY.out.2.1).1
   have hz5 := H5.out.1.lt
   have hgg := HY.out.2.2.2
   have hgs := HB.out.2.2.2.2.1
   have hCI0 : CheckI w5 s now0 w5 g9 := ⟨(H5.out.2.block _ hz9).trans HY.out.2.1, fun k _ _ => rfl, rfl, rfl, rfl, Nat.le_refl _⟩
   have hs5 : w5.heap[g9]? = some (.cells (cS s) 30 (0, 0)) := (H5.out.2.block _ (by omega)).trans HY.out.1
   have hb5w : Below wb.heap.size wb w5 := HY.out.2.2.1.trans (H5.out.2.mono HY.out.2.2.1.size)
   have HW5 := Aside0.mk (⟨hs5, hb5w, HB.out.2.2.2.2.2.2.below hb5w⟩ : _ ∧ _ ∧ _)
   clear hs5 hb5w hW5 hCy
   gi_wp2
   refine rangeOver2 (F := Fence.wide) rfl (by omega) (gf := 83) (lb := #[.pointer (some ⟨wy.heap.size, 0, none⟩)]) rfl trivial (enters_ Tryz.func83 (by kernel_rfl) rfl) (E := Eb p) (S := Sb wy.heap.size A) (T := fun _ => False) (xs := (List.range p.length).reverse) (Post := fun _ => True) hgv
    (fun k o h => h.1) (fun k hk => hk.elim) (fun i x vs W hv => by rw [hv]; rfl)
    (fun i W => CheckI w5 s (upL s (p.drop (p.length - i)) (p.length - i) now0) W g9) ?hI1 (by rw [Nat.sub_zero, List.drop_length, upL]; exact hCI0)
    (fun i x a' W => ∃ b, W.heap[b]? = some (.cells (cS (p.getD x zS)) 30 (0, 0)) ∧ w5.heap.size ≤ b ∧ a' = { tmps := #[.agg (cS root), .string k, .agg C, .pointer (some ⟨g, 0, none⟩), undef, .pointer (some ⟨g + 1, 0, none⟩), .pointer (some ⟨g + 1 + 1, 0, none⟩), .bool false, .bool false, .pointer (some ⟨g9, 0, none⟩), .pointer (some ⟨g9 + 1, 0, none⟩), .int .i64 (x : Int), .pointer (some ⟨b, 0, none⟩), .string k, .agg C, .bool true, .bool false, undef, .string k, .slice (some ⟨w1.heap.size, 0, none⟩) k.size (grownCap w1 k.size 0 5), .agg (cS s), .agg Z, .pointer (some ⟨g + 1, 1, none⟩), .int .i64 e, .bool true, .pointer (some ⟨g + 1, 2, none⟩), .agg (cL l), .agg (cS now0), .pointer (some ⟨g + 1, 0, none⟩), .slice A p.length c, .func (.func 83) #[] #[.pointer (some ⟨wy.heap.size, 0, none⟩)], .int .i64 (x : Int), .agg (cS (p.getD x zS)), undef, undef, undef, undef, undef, undef, undef, undef, undef, undef, undef, undef, undef, undef, undef, undef, undef, undef, undef, undef, undef], defers := [] })
    ?hAx1 ?hassign1 ?hbody1 ?hdone1
   case hI1 =>
    rintro i X Y h hs
    have key : ∀ (k : Nat) (o : Obj), X.heap[k]? = some o → o.isCells = true → Y.heap[k]? = some o := fun k o hk ho => (hs.same k (Array.getElem?_eq_some_iff.1 hk).1 (fun h' => by
     rcases h' with h' | ⟨_, o', ho', hoc⟩
     ·exact h'
     ·rw [hk] at ho'; cases ho'; rw [ho] at hoc; cases hoc)).trans hk
    refine ⟨key _ _ h.now rfl, fun k hk hne => ?_, hs.os.trans h.os, hs.tape.trans h.tape, hs.output.trans h.output, Nat.le_trans h.size hs.size⟩
    exact (hs.same k (Nat.lt_of_lt_of_le hk h.size) (fun h' => by
     rcases h' with h' | ⟨h6, _⟩
     ·exact h'
     ·omega)).trans (h.old k hk hne)
   case hAx1 =>
    rintro i x a' X Y ⟨b, h1, h2, rfl⟩ hs
    refine ⟨b, (hs.same b (Array.getElem?_eq_some_iff.1 h1).1 (fun h' => ?_)).trans h1, h2, rfl⟩
    rcases h' with h' | ⟨_, o', ho', hoc⟩
    ·exact h'
    ·rw [h1] at ho'; cases ho'; cases hoc
   case hassign1 =>
    rintro lp i x vs W K hx hCI hv hsz hK
    rw [hv]
    obtain ⟨o, ho⟩ : ∃ o, p.getD x zS = o := ⟨_, rfl⟩
    rw [ho] at hK ⊢
    simp only [List.zip_toArray, List.zip_cons_cons, List.zip_nil_right, List.foldl_toArray', List.foldl_cons, List.foldl_nil]
    have hnew : ∀ k, k < W.heap.size → ((W.alloc (.cells (cS zS) 30)).setRow W.heap.size (cS o)).heap[k]? = W.heap[k]? := fun k hk => (setRow_other _ _ _ _ (by omega)).trans (h_old hk)
    have hzn : ((W.alloc (.cells (cS zS) 30)).setRow W.heap.size (cS o)).heap.size = W.heap.size + 1 := by rw [size_setRow, size_alloc]
    have HN := Aside0.mk (And.intro hnew hzn)
    have HO := Aside0.mk ho
    clear hnew hzn ho
    gi_wp2_with ((with_reducible refine gate_storeIn (t := 30) (x := .tmp 12) rfl ?_); (refine at_worldIn (w' := W.alloc (.cells (cS zS) 30)) (zw W).symm ?_); (refine wpListIn_store_row rfl 30 (.tmp 12) (.tmp 32) rfl W.heap.size (cS o) rfl rfl 30 (cS zS) (h_new rfl) (by rw [cS_size]; kernel_rfl) (by rw [cS_size, cS_size]) (encI_one _) ?_))
    refine hK _ _ ⟨by rw [HN.out.2]; omega, fun k o' _ hk _ => (HN.out.1 k (Array.getElem?_eq_some_iff.1 hk).1).trans hk⟩ (fun k o' hk _ => (HN.out.1 k (Array.getElem?_eq_some_iff.1 hk).1).trans hk) ?_ ⟨W.heap.size, setRow_heap _ _ _ _ _ _ (h_new rfl), hsz, rfl⟩
    exact ⟨(HN.out.1 _ (Array.getElem?_eq_some_iff.1 hCI.now).1).trans hCI.now, fun k hk hne => (HN.out.1 k (Nat.lt_of_lt_of_le hk hCI.size)).trans (hCI.old k hk hne), hCI.os, hCI.tape, hCI.output, by rw [HN.out.2]; have := hCI.size; omega⟩
   case hbody1 =>
    rintro lp i x a' W hlp hloop hx hCI ⟨b, hb, hbs, rfl⟩ hsz
    have hil : i < p.length := by have := (List.getElem?_eq_some_iff.1 hx).1; simpa using this
    have hxi : x = p.length - (i + 1) := by
     rw [List.getElem?_reverse (by rw [List.length_range]; exact hil), List.length_range, List.getElem?_range (by omega)] at hx
     have := Option.some.inj hx
     omega
    have hx1 : x < p.length := by omega
    have hx2 : x < 256 := by have := HP256.out; omega
    obtain ⟨o, ho⟩ : ∃ o, p.getD x zS = o := ⟨_, rfl⟩
    obtain ⟨cur, hcur⟩ : ∃ t, upL s (p.drop (x + 1)) (x + 1) now0 = t := ⟨_, rfl⟩
    obtain ⟨β, hβ⟩ : ∃ β, bitI s x = β := ⟨_, rfl⟩
    have hst := upL_step s p x hx1 now0
    rw [hβ, ho, hcur] at hst
    rw [show p.length - i = x + 1 by omega, hcur] at hCI
    rw [show p.length - (i + 1) = x by omega]
    rw [ho] at hb
    have HST := Aside0.mk (And.intro hst hβ)
    have h9 : W.heap[g9]? = some (.cells (cS s) 30 (0, 0)) := (hCI.old g9 (by omega) (by omega)).trans HW5.out.1
    have hWW : Words W := ⟨(hCI.old 0 (by omega) (by omega)).trans HW5.out.2.2.1, by have := hCI.size; omega⟩
    have HWW := Aside0.mk hWW
    have hls : (loadVar 30 ⟨g9, 0, none⟩).run Tryz.prog W = .ok (.agg (cS s)) W := ld_S h9 0
    clear hWW h9 hst hβ hcur ho hx hil hxi
    gi_wp2_with ((with_reducible refine gate_dstIn (N := 33) rfl ?_); refine wpListIn_loadv rfl 30 _ rfl _ rfl _ hls ?_)
    refine ⟨trivial, (CallsIn.inRound _ (callsIn_wide.2 (bitm_calls s x hx2 W))).mono ?_⟩
    rw [HST.out.2]
    rintro r w6 ⟨rfl, hb6⟩
    clear hls
    have hst := HST.out.1
    by_cases hbt : β = 0
    ·subst hbt
     rw [if_pos rfl] at hst
     obtain ⟨nx, hnx⟩ : ∃ t, nodeH cur o = t := ⟨_, rfl⟩
     rw [hnx] at hst
     have HNX := Aside0.mk (And.intro hst hnx)
     clear hst hnx
     have hlc : (loadVar 30 ⟨g9 + 1, 0, none⟩).run Tryz.prog w6 = .ok (.agg (cS cur)) w6 := ld_S ((hb6.block _ (Array.getElem?_eq_some_iff.1 hCI.now).1).trans hCI.now) 0
     have hlo : (loadVar 30 ⟨b, 0, none⟩).run Tryz.prog w6 = .ok (.agg (cS o)) w6 := ld_S ((hb6.block _ (Array.getElem?_eq_some_iff.1 hb).1).trans hb) 0
     gi_wp2_with (first
      | ((with_reducible refine gate_dstIn (N := 37) rfl ?_); refine wpListIn_loadv rfl 30 _ rfl _ rfl _ hlc ?_)
      | ((with_reducible refine gate_dstIn (N := 38) rfl ?_); refine wpListIn_loadv rfl 30 _ rfl _ rfl _ hlo ?_))
     refine ⟨trivial, (CallsIn.inRound _ (callsIn_wide.2 (nodem_calls cur o w6 (HWW.out.below hb6)))).mono ?_⟩
     rw [HNX.out.2]
     rintro r w7 ⟨rfl, hb7⟩
     have hb8 := hb6.trans (hb7.mono hb6.size)
     have h710 := (hb8.block _ (Array.getElem?_eq_some_iff.1 hCI.now).1).trans hCI.now
     gi_wp2_with ((with_reducible refine gate_storeIn (t := 30) (x := .tmp 10) rfl ?_); (refine wpListIn_store_row rfl 30 (.tmp 10) (.tmp 39) rfl (g9 + 1) (cS nx) rfl rfl 30 (cS cur) h710 (by rw [cS_size]; kernel_rfl) (by rw [cS_size, cS_size]) (encI_one _) ?_))
     have hk1 : ∀ k, k < W.heap.size → k ≠ g9 + 1 → (w7.setRow (g9 + 1) (cS nx)).heap[k]? = W.heap[k]? := fun k hk hne => (setRow_other _ _ _ _ hne).trans (hb8.block k hk)
     have hz7 := hb8.size
     have hzr : (w7.setRow (g9 + 1) (cS nx)).heap.size = w7.heap.size := size_setRow _ _ _
     refine ⟨⟨by omega, fun k o' _ hk hoc => (hk1 k (Array.getElem?_eq_some_iff.1 hk).1 (fun e1 => ?_)).trans hk⟩, fun k o' hk hS => (hk1 k (Array.getElem?_eq_some_iff.1 hk).1 (fun e1 => ?_)).trans hk, ?_⟩
     ·rw [e1, hCI.now] at hk; cases hk; cases hoc
     ·rcases hS.2 with h | ⟨ad, eA, h⟩
      ·omega
      ·have := HBA.out ad eA (by omega)
       have := HG.out
       omega
     ·rw [HNX.out.1]
      exact ⟨setRow_heap _ _ _ _ _ _ h710, fun k hk hne => (hk1 k (Nat.lt_of_lt_of_le hk hCI.size) hne).trans (hCI.old k hk hne), hb8.os.trans hCI.os, hb8.tape.trans hCI.tape, hb8.output.trans hCI.output, by have := hCI.size; omega⟩
    ·have hbt2 : (β == 0) = false := by simp [hbt]
     rw [if_neg hbt] at hst
     obtain ⟨nx, hnx⟩ : ∃ t, nodeH o cur = t := ⟨_, rfl⟩
     rw [hnx] at hst
     have HNX := Aside0.mk (And.intro hst hnx)
     clear hst hnx
     have hlc : (loadVar 30 ⟨g9 + 1, 0, none⟩).run Tryz.prog w6 = .ok (.agg (cS cur)) w6 := ld_S ((hb6.block _ (Array.getElem?_eq_some_iff.1 hCI.now).1).trans hCI.now) 0
     have hlo : (loadVar 30 ⟨b, 0, none⟩).run Tryz.prog w6 = .ok (.agg (cS o)) w6 := ld_S ((hb6.block _ (Array.getElem?_eq_some_iff.1 hb).1).trans hb) 0
     gi_wp2_with (first
      | ((with_reducible refine gate_dstIn (N := 40) rfl ?_); refine wpListIn_loadv rfl 30 _ rfl _ rfl _ hlo ?_)
      | ((with_reducible refine gate_dstIn (N := 41) rfl ?_); refine wpListIn_loadv rfl 30 _ rfl _ rfl _ hlc ?_))
     refine ⟨trivial, (CallsIn.inRound _ (callsIn_wide.2 (nodem_calls o cur w6 (HWW.out.below hb6)))).mono ?_⟩
     rw [HNX.out.2]
     rintro r w7 ⟨rfl, hb7⟩
     have hb8 := hb6.trans (hb7.mono hb6.size)
     have h710 := (hb8.block _ (Array.getElem?_eq_some_iff.1 hCI.now).1).trans hCI.now
     gi_wp2_with ((with_reducible refine gate_storeIn (t := 30) (x := .tmp 10) rfl ?_); (refine wpListIn_store_row rfl 30 (.tmp 10) (.tmp 42) rfl (g9 + 1) (cS nx) rfl rfl 30 (cS cur) h710 (by rw [cS_size]; kernel_rfl) (by rw [cS_size, cS_size]) (encI_one _) ?_))
     have hk1 : ∀ k, k < W.heap.size → k ≠ g9 + 1 → (w7.setRow (g9 + 1) (cS nx)).heap[k]? = W.heap[k]? := fun k hk hne => (setRow_other _ _ _ _ hne).trans (hb8.block k hk)
     have hz7 := hb8.size
     have hzr : (w7.setRow (g9 + 1) (cS nx)).heap.size = w7.heap.size := size_setRow _ _ _
     refine ⟨⟨by omega, fun k o' _ hk hoc => (hk1 k (Array.getElem?_eq_some_iff.1 hk).1 (fun e1 => ?_)).trans hk⟩, fun k o' hk hS => (hk1 k (Array.getElem?_eq_some_iff.1 hk).1 (fun e1 => ?_)).trans hk, ?_⟩
     ·rw [e1, hCI.now] at hk; cases hk; cases hoc
     ·rcases hS.2 with h | ⟨ad, eA, h⟩
      ·omega
      ·have := HBA.out ad eA (by omega)
       have := HG.out
       omega
     ·rw [HNX.out.1]
      exact ⟨setRow_heap _ _ _ _ _ _ h710, fun k hk hne => (hk1 k (Nat.lt_of_lt_of_le hk hCI.size) hne).trans (hCI.old k hk hne), hb8.os.trans hCI.os, hb8.tape.trans hCI.tape, hb8.output.trans hCI.output, by have := hCI.size; omega⟩
   case hdone1 =>
    rintro D W W' hD _ hA hCI hsz hDd
    rw [List.length_reverse, List.length_range, Nat.sub_self, List.drop_zero] at hCI
    obtain ⟨T, hT⟩ : ∃ T, upL s p 0 now0 = T := ⟨_, rfl⟩
    rw [hT] at hCI
    have htp : topOf k p e l = T := by rw [HTOP.out, HNOW.out, hT]
    have hcb := HCB.out
    rw [htp] at hcb
    have hB := hCI.below (b := wb.heap.size) (by omega) (by have := HW5.out.2.1.size; omega)
    have hbel : Below wb.heap.size wb W' := HW5.out.2.1.trans hB
    have h0 := (hbel.block g (by omega)).trans HB.out.1
    have h1 := (hbel.block (g + 1) (by omega)).trans HB.out.2.1
    have h2 := (hbel.block (g + 2) (by omega)).trans HB.out.2.2.1
    have hlt : (loadVar 30 ⟨g9 + 1, 0, none⟩).run Tryz.prog W' = .ok (.agg (cS T)) W' := ld_S hCI.now 0
    have hlr : (loadVar 30 ⟨g, 0, none⟩).run Tryz.prog W' = .ok (.agg (cS root)) W' := ld_S h0 0
    have hlv : (loadVar 30 ⟨g + 1, 3, none⟩).run Tryz.prog W' = .ok (.agg (cS l.v)) W' := le_S (cells_P3 h1) (Below.refl _ _) 0
    have hce := cell_P1 h1
    have HDD := Aside0.mk (⟨by omega, hDd⟩ : g + 2 < D ∧ _)
    have HF := Aside0.mk (⟨HB.out.2.2.2.1.trans (hbel.mono (by have := HB.out.2.2.2.1.size; omega)), h2⟩ : _ ∧ _)
    have HCB2 := Aside0.mk hcb
    clear hcb htp hT hB hbel h0 h1 h2 hCI hA hDd hgv hCI0 hD
    by_cases hrr : T = root
    ·have hd : decide (T = root) = true := by simp [hrr]
     have hcb2 : checkB root k p e l = if e = 1 then (l.v, true, true) else (zS, false, true) := by rw [HCB2.out, if_neg (fun h => h hrr)]
     have HCB3 := Aside0.mk hcb2
     clear hcb2 hrr
     by_cases e1 : e = 1
     ·have hcb3 : checkB root k p e l = (l.v, true, true) := by rw [HCB3.out, if_pos e1]
      have HCB4 := Aside0.mk hcb3
      have e1b : (e == 1) = true := by simp [e1]
      obtain ⟨V, hV⟩ : ∃ V, V = cS l.v := ⟨_, rfl⟩
      rw [← hV] at hlv
      have HLV := Aside0.mk hV
      clear hcb3 hV e1
      gi_wp2_with (first
       | ((with_reducible refine gate_dstIn (N := 43) rfl ?_); refine wpListIn_loadv rfl 30 _ rfl _ rfl _ hlt ?_)
       | ((with_reducible refine gate_dstIn (N := 44) rfl ?_); refine wpListIn_loadv rfl 30 _ rfl _ rfl _ hlr ?_)
       | (refine wpListIn_neq rfl _ _ _ _ rfl _ _ rfl rfl gt_S true (fun w => by rw [← hd]; exact eqS w _ _) ?_)
       | ((with_reducible refine gate_dstIn (N := 52) rfl ?_); refine wpListIn_loadv rfl 30 _ rfl _ rfl _ hlv ?_)
       | ((with_reducible refine gate_storeIn (t := 30) (x := .tmp 6) rfl ?_); (refine wpListIn_store_row rfl 30 (.tmp 6) (.tmp 52) rfl (g + 2) V rfl rfl 30 (cS zS) HF.out.2 (by rw [HLV.out, cS_size]; kernel_rfl) (by rw [HLV.out, cS_size, cS_size]) (by rw [HLV.out]; exact encI_one _) ?_)))
      have hbel3 : Below w.heap.size w (W'.setRow (g + 2) V) := below_setRow HF.out.1 (by have := HG.out; omega)
      have hgr3 : (W'.setRow (g + 2) V).heap[g + 2]? = some (.cells (cS l.v) 30 (0, 0)) := by rw [← HLV.out]; exact setRow_heap _ _ _ _ _ _ HF.out.2
      refine leaves_marks w.heap.size [D] _ (by simp) (fun D' hD' => by rw [List.mem_singleton.1 hD']; exact ⟨by have := HDD.out.1; have := HG.out; omega, (setRow_other _ _ _ _ (by have := HDD.out.1; omega)).trans HDD.out.2⟩) (fun w' hk hz ho ht hou => ⟨_, results_row_tmp2 rfl _ _ (g + 2) 30 _ (0, 0) _ rfl ((hk (g + 2) (by have := HDD.out.1; simp; omega)).trans hgr3) hu27 rfl (by rw [cS_size]; kernel_rfl) _ _ rfl rfl, ?_⟩)
      exact ⟨by rw [HCB4.out]; rfl, ⟨ho.trans hbel3.os, ht.trans hbel3.tape, hou.trans hbel3.output, by rw [hz]; exact hbel3.size, fun k hk' => (hk k (by have := HDD.out.1; have := HG.out; simp; omega)).trans (hbel3.block k hk')⟩⟩
     ·have hcb3 : checkB root k p e l = (zS, false, true) := by rw [HCB3.out, if_neg e1]
      have HCB4 := Aside0.mk hcb3
      have e1b : (e == 1) = false := by simp [e1]
      clear hcb3 e1
      gi_wp2_with (first
       | ((with_reducible refine gate_dstIn (N := 43) rfl ?_); refine wpListIn_loadv rfl 30 _ rfl _ rfl _ hlt ?_)
       | ((with_reducible refine gate_dstIn (N := 44) rfl ?_); refine wpListIn_loadv rfl 30 _ rfl _ rfl _ hlr ?_)
       | (refine wpListIn_neq rfl _ _ _ _ rfl _ _ rfl rfl gt_S true (fun w => by rw [← hd]; exact eqS w _ _) ?_)
       | ((with_reducible refine gate_dstIn (N := 53) rfl ?_); (refine wpListIn_built0 rfl 30 rfl Z (by rw [HZZ.out]; kernel_rfl) ?_))
       | ((with_reducible refine gate_storeIn (t := 30) (x := .tmp 6) rfl ?_); (refine wpListIn_store_row rfl 30 (.tmp 6) (.tmp 53) rfl (g + 2) Z rfl rfl 30 (cS zS) HF.out.2 (by rw [HZZ.out, cS_size]; kernel_rfl) (by rw [HZZ.out]) (by rw [HZZ.out]; exact encI_one _) ?_)))
      have hbel3 : Below w.heap.size w (W'.setRow (g + 2) Z) := below_setRow HF.out.1 (by have := HG.out; omega)
      have hgr3 : (W'.setRow (g + 2) Z).heap[g + 2]? = some (.cells (cS zS) 30 (0, 0)) := by rw [← HZZ.out]; exact setRow_heap _ _ _ _ _ _ HF.out.2
      refine leaves_marks w.heap.size [D] _ (by simp) (fun D' hD' => by rw [List.mem_singleton.1 hD']; exact ⟨by have := HDD.out.1; have := HG.out; omega, (setRow_other _ _ _ _ (by have := HDD.out.1; omega)).trans HDD.out.2⟩) (fun w' hk hz ho ht hou => ⟨_, results_row_tmp2 rfl _ _ (g + 2) 30 _ (0, 0) _ rfl ((hk (g + 2) (by have := HDD.out.1; simp; omega)).trans hgr3) hu27 rfl (by rw [cS_size]; kernel_rfl) _ _ rfl rfl, ?_⟩)
      exact ⟨by rw [HCB4.out]; rfl, ⟨ho.trans hbel3.os, ht.trans hbel3.tape, hou.trans hbel3.output, by rw [hz]; exact hbel3.size, fun k hk' => (hk k (by have := HDD.out.1; have := HG.out; simp; omega)).trans (hbel3.block k hk')⟩⟩
    ·have hd : decide (T = root) = false := by simp [hrr]
     have hcb2 : checkB root k p e l = (zS, false, false) := by rw [HCB2.out, if_pos hrr]
     have HCB3 := Aside0.mk hcb2
     clear hcb2 hrr
     gi_wp2_with (first
      | ((with_reducible refine gate_dstIn (N := 43) rfl ?_); refine wpListIn_loadv rfl 30 _ rfl _ rfl _ hlt ?_)
      | ((with_reducible refine gate_dstIn (N := 44) rfl ?_); refine wpListIn_loadv rfl 30 _ rfl _ rfl _ hlr ?_)
      | (refine wpListIn_neq rfl _ _ _ _ rfl _ _ rfl rfl gt_S false (fun w => by rw [← hd]; exact eqS w _ _) ?_)
      | ((with_reducible refine gate_dstIn (N := 46) rfl ?_); (refine wpListIn_built0 rfl 30 rfl Z (by rw [HZZ.out]; kernel_rfl) ?_))
      | ((with_reducible refine gate_storeIn (t := 30) (x := .tmp 6) rfl ?_); (refine wpListIn_store_row rfl 30 (.tmp 6) (.tmp 46) rfl (g + 2) Z rfl rfl 30 (cS zS) HF.out.2 (by rw [HZZ.out, cS_size]; kernel_rfl) (by rw [HZZ.out]) (by rw [HZZ.out]; exact encI_one _) ?_)))
     have hbel3 : Below w.heap.size w (W'.setRow (g + 2) Z) := below_setRow HF.out.1 (by have := HG.out; omega)
     have hgr3 : (W'.setRow (g + 2) Z).heap[g + 2]? = some (.cells (cS zS) 30 (0, 0)) := by rw [← HZZ.out]; exact setRow_heap _ _ _ _ _ _ HF.out.2
     refine leaves_marks w.heap.size [D] _ (by simp) (fun D' hD' => by rw [List.mem_singleton.1 hD']; exact ⟨by have := HDD.out.1; have := HG.out; omega, (setRow_other _ _ _ _ (by have := HDD.out.1; omega)).trans HDD.out.2⟩) (fun w' hk hz ho ht hou => ⟨_, results_row_tmp2 rfl _ _ (g + 2) 30 _ (0, 0) _ rfl ((hk (g + 2) (by have := HDD.out.1; simp; omega)).trans hgr3) hu27 rfl (by rw [cS_size]; kernel_rfl) _ _ rfl rfl, ?_⟩)
     exact ⟨by rw [HCB3.out]; rfl, ⟨ho.trans hbel3.os, ht.trans hbel3.tape, hou.trans hbel3.output, by rw [hz]; exact hbel3.size, fun k hk' => (hk k (by have := HDD.out.1; have := HG.out; simp; omega)).trans (hbel3.block k hk')⟩⟩
end Go.Proofs.YtanabbjakacgbaaGreatDoor.Sp

