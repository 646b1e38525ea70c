/- Put together by this session's program out of: Hg Hb0 I0 Ib Id Ie Ic Ia If. -/
import Derived.Laws.Externs
import Derived.Lib.AppendZeros
import Derived.Lib.AppendZerosOnto
import Derived.Lib.Bytealg
import Derived.Lib.Overlaps
import Derived.WalkSpells
import Derived.Test.YtanabbjakacgbaaGreatDoorM14
import Derived.Test.YtanabbjakacgbaaGreatDoorM4
import Derived.Test.YtanabbjakacgbaaGreatDoorM9
import Derived.Test.YtanabbjakacgbaaGreatDoorM15
namespace Go.Proofs.YtanabbjakacgbaaGreatDoor.Sp
open Go.RowKit Go.Proofs.YtanabbjakacgbaaGreatDoorW.PrintWords Go.Proofs.YtanabbjakacgbaaGreatDoorW.PrintLast Go.Proofs.YtanabbjakacgbaaGreatDoorW.PrintMore Go.Proofs.YtanabbjakacgbaaGreatDoor.PM Go.Proofs.YtanabbjakacgbaaGreatDoor.Grow
set_option linter.unusedVariables false
set_option linter.unusedSimpArgs false
set_option maxRecDepth 100000
attribute [local go_sem] Oper.semAt_some
structure OdSt (w0 : World) (g : Nat) (QQ : Array Value) (u : Value) (e : Int) (l : Lf) (v : Value) (p : List Sm) (w : World) : Prop where
 below : Below w0.heap.size w0 w
 bp : w.heap[g]? = some (.cells (cP u e l) 34 (0, 0))
 bq : w.heap[g + 1]? = some (.cells QQ 23 (0, 0))
 br : w.heap[g + 2]? = some (.cells (cP (.slice none 0 0) 0 zL) 34 (0, 0))
 row : kS.R 30 w (g + 3) (fun _ => True) v p
 lt : w0.heap.size ≤ g ∧ g + 3 ≤ w.heap.size
section
variable {w0 w w' : World} {g : Nat} {QQ : Array Value} {u u' v v' : Value} {e e' : Int} {l l' : Lf} {p p' : List Sm}
theorem OdSt.nextB (h : OdSt w0 g QQ u e l v p w) (hb : Below (g + 3) w w') (hr : kS.R 30 w' (g + 3) (fun _ => True) v' p') : OdSt w0 g QQ u e l v' p' w' :=
 ⟨h.below.trans (hb.mono (by have := h.lt; omega)), (hb.block _ (by omega)).trans h.bp, (hb.block _ (by omega)).trans h.bq, (hb.block _ (by omega)).trans h.br, hr, by have := h.lt; have := hb.size; omega⟩
theorem OdSt.next (h : OdSt w0 g QQ u e l v p w) (hb : Below w.heap.size w w') : OdSt w0 g QQ u e l v p w' :=
 h.nextB (hb.mono h.lt.2) (Kd.R_below h.row hb)
theorem OdSt.cell (h : OdSt w0 g QQ u e l v p w) (j : Nat) (x : Value) (hn : (w.setCell ⟨g, j, none⟩ x).heap[g]? = some (.cells (cP u' e' l') 34 (0, 0))) : OdSt w0 g QQ u' e' l' v p (w.setCell ⟨g, j, none⟩ x) :=
 ⟨h.below.setCell (p := ⟨g, j, none⟩) h.lt.1 _, hn, (heap_setCell_ne (by show g + 1 ≠ g; omega)).trans h.bq, (heap_setCell_ne (by show g + 2 ≠ g; omega)).trans h.br, R_setCell h.row (by omega) _, by have := h.lt; have := (Array.getElem?_eq_some_iff.1 ((heap_setCell_ne (v := x) (o := j) (w := w) (show g + 2 ≠ g by omega)).trans h.br)).1; omega⟩
structure OdE (w0 : World) (g : Nat) (u : Value) (e : Int) (l : Lf) (w : World) : Prop where
 below : Below w0.heap.size w0 w
 bp : w.heap[g]? = some (.cells (cP u e l) 34 (0, 0))
 br : w.heap[g + 2]? = some (.cells (cP (.slice none 0 0) 0 zL) 34 (0, 0))
 lt : w0.heap.size ≤ g
theorem app_Sall {wa W : World} {ops : Array Oper} {rest : List Oper} {o : Oper} {a : Act} {Q : Exit → Act → World → Prop} (hg : o.guard = none) (s x : Operand) (ho : o.op = .call { callee := .builtin .append, args := #[s, x], argTypes := #[28, 28] }) (v : Value) (xs ys : List Sm) (A : Option Addr) (c : Nat) (hs : a.eval s = v) (hx : a.eval x = .slice A ys.length c) (B : Nat) (HO : kS.R 30 W B (fun _ => True) v xs) (HR : kS.C W A ys.length ys) (HB : Below B wa W) (hB : B ≤ W.heap.size) (hl : xs.length + ys.length ≤ 1000000)
  (h : ∀ v1 w1, kS.R 30 w1 B (fun _ => True) v1 (xs ++ ys) → Below B wa w1 → wpList Tryz.prog ops Q rest (a.put o.dst v1) w1) : wpList Tryz.prog ops Q (o :: rest) a W :=
 Kd.R_append_rows kS (w0 := wa) B hg s x 28 30 (.agg (cS zS)) 32 ho Tryz.underlying28 infoS (cS_size _) (by decide) (by decide) v xs ys A ys.length c (fun _ => True) (fun _ => False) hs hx HO HR (fun _ _ h => h) (fun _ h => h.elim) (fun _ _ => trivial) HB hB (by omega) (fun v1 w1 h1 h2 _ _ => h v1 w1 h1 h2)
end
set_option maxHeartbeats 4000000 in
theorem odd_calls (p : Pf) (q0 q1 q2 q3 : Int) (hq0 : 0 ≤ q0 ∧ q0 < 256) (hq1 : 0 ≤ q1 ∧ q1 < 256) (hq2 : 0 ≤ q2 ∧ q2 < 256) (hq3 : 0 ≤ q3 ∧ q3 < 256) (A : Option Addr) (c : Nat) (w : World) (hr : kS.C w A p.p.length p.p) (hlen : p.p.length ≤ 256) (hks : p.l.k.size ≤ 100000) :
  Calls Tryz.prog 15 #[.agg (cP (.slice A p.p.length c) p.e p.l), .agg #[.int .u8 q0, .int .u8 q1, .int .u8 q2, .int .u8 q3]] w fun e w' => ∃ q : Pf, ∃ A' c' C, C = cP (.slice A' q.p.length c') q.e q.l ∧ e = .returned (.agg C) ∧ kS.C w' A' q.p.length q.p ∧ Ty27 w' A' ∧ q.p.length ≤ 257 ∧ q.l.k.size ≤ 100000 ∧ Below w.heap.size w w' := by
 have hu36 := Tryz.underlying34
 obtain ⟨QQ, hQQ⟩ : ∃ Q : Array Value, Q = #[.int .u8 q0, .int .u8 q1, .int .u8 q2, .int .u8 q3] := ⟨_, rfl⟩
 rw [← hQQ]
 obtain ⟨P, ep, lp⟩ := p
 dsimp only at hr hlen hks ⊢
 obtain ⟨C, hC⟩ : ∃ C, C = cP (.slice A P.length c) ep lp := ⟨_, rfl⟩
 rw [← hC]
 obtain ⟨g, hg⟩ : ∃ g, g = w.heap.size := ⟨_, rfl⟩
 obtain ⟨Z36, hz36⟩ : ∃ Z, Z = cP (.slice none 0 0) 0 zL := ⟨_, rfl⟩
 obtain ⟨wb, hwb⟩ : ∃ wb, ((w.alloc (.cells C 34)).alloc (.cells QQ 23)).alloc (.cells Z36 34) = wb := ⟨_, rfl⟩
 have h0 : wb.heap[g]? = some (.cells C 34 (0, 0)) := by rw [← hwb, h_old (by simp only [size_alloc]; omega), h_old (by simp only [size_alloc]; omega)]; exact h_new hg
 have h1 : wb.heap[g + 1]? = some (.cells QQ 23 (0, 0)) := by rw [← hwb, h_old (by simp only [size_alloc]; omega)]; exact h_new (by rw [size_alloc, hg])
 have h2 : wb.heap[g + 2]? = some (.cells Z36 34 (0, 0)) := by rw [← hwb]; exact h_new (by rw [size_alloc, size_alloc, hg])
 have hb : Below w.heap.size w wb := by rw [← hwb]; exact below_alloc (below_alloc (below_alloc (Below.refl _ _) _) _) _
 have hs : wb.heap.size = g + 3 := by rw [← hwb, size_alloc, size_alloc, size_alloc, hg]
 have hce : ∀ W : World, W.heap[g + 1]? = some (.cells QQ 23 (0, 0)) → W.cell? ⟨g + 1, 0, none⟩ = some (.int .u8 q0) ∧ W.cell? ⟨g + 1, 1, none⟩ = some (.int .u8 q1) ∧ W.cell? ⟨g + 1, 2, none⟩ = some (.int .u8 q2) ∧ W.cell? ⟨g + 1, 3, none⟩ = some (.int .u8 q3) := fun W h => by
  rw [hQQ] at h
  exact ⟨(cell_of_row W (g + 1) 0 _ 23 _ h).trans rfl, (cell_of_row W (g + 1) 1 _ 23 _ h).trans rfl, (cell_of_row W (g + 1) 2 _ 23 _ h).trans rfl, (cell_of_row W (g + 1) 3 _ 23 _ h).trans rfl⟩
 have HCE := Aside0.mk hce
 have HB := Aside0.mk (⟨h0, h1, h2, hb, hs, Kd.C_below hr hb⟩ : _ ∧ _ ∧ _ ∧ _ ∧ _ ∧ _)
 have HC := Aside0.mk hC
 have HG := Aside0.mk hg
 have HWB := Aside0.mk hwb
 have HZ36 := Aside0.mk (And.intro (show ∀ w, (zeroValue 34).run Tryz.prog w = .ok (.agg Z36) w by rw [hz36]; exact zero36) hz36)
 have hcx : wb.cell? ⟨g, 0, none⟩ = some (.slice A P.length c) := by rw [hC] at h0; exact cell_P0 h0
 clear h0 h1 h2 hb hs hce hwb hC hg hz36 hr hQQ
 have HP1 := Aside0.mk (show ([] : List Sm).length + P.length ≤ 1000000 by rw [List.length_nil]; omega)
 have hq6 : q0 % 6 = 0 ∨ q0 % 6 = 1 ∨ q0 % 6 = 2 ∨ q0 % 6 = 3 ∨ q0 % 6 = 4 ∨ q0 % 6 = 5 := by omega
 rcases hq6 with h | h | h | h | h | h
 ·have hf0 : (q0 % 6 == 0) = true := by rw [h]; rfl
  clear h
  go_enter Tryz.func15, Tryz.ntmps15
  go_wp2_with (first
   | ((with_reducible refine gate_dst (N := 4) rfl ?_); (refine wpList_allocz rfl 34 Z36 rfl HZ36.out.1 ?_); rw [HWB.out, size_alloc, size_alloc, show w.heap.size + 1 + 1 = g + 2 by rw [HG.out], ← HG.out])
   | ((with_reducible refine gate_dst (N := 5) rfl ?_); (refine wpList_bs0 kS (wa := wb) rfl 28 30 rfl rfl 32 32 _ Tryz.underlying28 infoS (g + 3) (Below.refl _ _) (by rw [HB.out.2.2.2.2.1]; exact Nat.le_refl _) ?_); intro v0 w1 hr0 hb0 hs0; have hcp : kS.C w1 A P.length P := Kd.C_below HB.out.2.2.2.2.2 (show Below wb.heap.size wb w1 by rw [HB.out.2.2.2.2.1]; exact hb0); have hz1 : g + 3 ≤ w1.heap.size := (by have := HB.out.2.2.2.2.1; omega); have H1 := Aside0.mk (⟨hr0, hb0, hcp, hz1⟩ : _ ∧ _ ∧ _ ∧ _); have hcx1 := (hb0.block g (by omega)); have hcx1 := (World.cell?_of_block (a := ⟨g, 0, none⟩) hcx1).trans hcx; clear hr0 hb0 hs0 hcx hcp hz1)
   | ((with_reducible refine gate_dst (N := 8) rfl ?_); (refine app_Sall (wa := wb) rfl (.tmp 5) (.tmp 7) rfl v0 [] P A c rfl rfl (g + 3) H1.out.1 H1.out.2.2.1 H1.out.2.1 H1.out.2.2.2 HP1.out ?_); intro v1 w2 hr1 hb1; rw [List.nil_append] at hr1; (obtain ⟨A8, c8, e8⟩ := Kd.R_slice hr1); subst e8; have H2 : Aside0 (OdSt w g QQ (.slice A P.length c) ep lp (.slice A8 P.length c8) P w2) := Aside0.mk ⟨HB.out.2.2.2.1.trans (hb1.mono (by have := HG.out; omega)), (hb1.block _ (by omega)).trans (by rw [← HC.out]; exact HB.out.1), (hb1.block _ (by omega)).trans HB.out.2.1, (hb1.block _ (by omega)).trans (by rw [← HZ36.out.2]; exact HB.out.2.2.1), hr1, (by have := HG.out; have := hb1.size; have := HB.out.2.2.2.2.1; omega)⟩; clear hr1 hb1 hcx1)
   | ((with_reducible refine gate_store (t := 28) (p := 9) rfl ?_); refine wpList_store_run rfl rfl (ad := ⟨g, 0, none⟩) (v := .slice A8 P.length c8) rfl rfl _ (run_c (by kernel_rfl) rfl rfl 0 (by decide) H2.out.bp) ?_; obtain ⟨w3, hw3⟩ : ∃ W, w2.setCell ⟨g, 0, none⟩ (.slice A8 P.length c8) = W := ⟨_, rfl⟩; refine at_world hw3 ?_; have st := H2.out.cell 0 (.slice A8 P.length c8) (set_P0 H2.out.bp); rw [hw3] at st; have H3 := Aside0.mk st; have hy0 := (HCE.out w3 st.bq).1; have hy1 := (HCE.out w3 st.bq).2.1; have hyp := cell_P0 st.bp; clear hw3 st; skip)
   | ((with_reducible refine gate_store (t := 3) (p := 44) rfl ?_); refine wpList_store_run rfl rfl (ad := ⟨g, 1, none⟩) (v := .int .i64 (q1 % 4)) rfl rfl _ (run_c (by kernel_rfl) rfl rfl 1 (by decide) H3.out.bp) ?_; obtain ⟨w4, hww⟩ : ∃ W, w3.setCell ⟨g, 1, none⟩ (.int .i64 (q1 % 4)) = W := ⟨_, rfl⟩; refine at_world hww ?_; have stF := H3.out.cell 1 (.int .i64 (q1 % 4)) (set_P1 (q1 % 4) H3.out.bp); rw [hww] at stF; clear hww; obtain ⟨CF, hCF⟩ : ∃ C, C = cP (.slice A8 P.length c8) (q1 % 4) lp := ⟨_, rfl⟩; have HF := Aside0.mk (⟨stF, hCF, fun W h => (R_C h).2.2, by omega, hks⟩ : OdSt w g QQ (.slice A8 P.length c8) (q1 % 4) lp (.slice A8 P.length c8) P w4 ∧ CF = _ ∧ (∀ W : World, kS.R 30 W (g + 3) (fun _ => True) (.slice A8 P.length c8) P → kS.C W A8 (P).length (P)) ∧ (P).length ≤ 257 ∧ _); clear stF hCF)
   | ((with_reducible refine gate_dst (N := 92) rfl ?_); (refine wpList_loadv rfl 34 _ rfl _ rfl _ (ld_Pf HF.out.2.1 (by rw [HF.out.2.1]; exact HF.out.1.bp)) ?_))
   | ((with_reducible refine gate_store (t := 34) (p := 4) rfl ?_); (refine wpList_store_row rfl 34 (.tmp 4) (.tmp 92) rfl (g + 2) CF rfl rfl 34 (cP (.slice none 0 0) 0 zL) HF.out.1.br (by rw [HF.out.2.1, cP_size]; kernel_rfl) (by rw [HF.out.2.1, cP_size, cP_size]) (by rw [HF.out.2.1]; exact all_one (cP_one rfl _ _)) ?_)))
  refine bodyPost_ret (v := .agg CF) ?_ rfl ⟨⟨P, (q1 % 4), lp⟩, A8, c8, CF, HF.out.2.1, rfl, HF.out.2.2.1 _ (R_setRow HF.out.1.row (by omega) CF), R_ty (R_setRow HF.out.1.row (by omega) CF), HF.out.2.2.2.1, HF.out.2.2.2.2, below_setRow HF.out.1.below (by have := HF.out.1.lt; omega)⟩
  exact results_cell_row rfl _ _ (g + 2) 34 _ (0, 0) _ rfl (setRow_heap _ _ _ _ _ _ HF.out.1.br) hu36 rfl (by rw [HF.out.2.1, cP_size]; kernel_rfl)
 ·have hf0 : (q0 % 6 == 0) = false := by rw [h]; rfl
  have hf1 : (q0 % 6 == 1) = true := by rw [h]; rfl
  clear h
  go_enter Tryz.func15, Tryz.ntmps15
  go_wp2_with (first
   | ((with_reducible refine gate_dst (N := 4) rfl ?_); (refine wpList_allocz rfl 34 Z36 rfl HZ36.out.1 ?_); rw [HWB.out, size_alloc, size_alloc, show w.heap.size + 1 + 1 = g + 2 by rw [HG.out], ← HG.out])
   | ((with_reducible refine gate_dst (N := 5) rfl ?_); (refine wpList_bs0 kS (wa := wb) rfl 28 30 rfl rfl 32 32 _ Tryz.underlying28 infoS (g + 3) (Below.refl _ _) (by rw [HB.out.2.2.2.2.1]; exact Nat.le_refl _) ?_); intro v0 w1 hr0 hb0 hs0; have hcp : kS.C w1 A P.length P := Kd.C_below HB.out.2.2.2.2.2 (show Below wb.heap.size wb w1 by rw [HB.out.2.2.2.2.1]; exact hb0); have hz1 : g + 3 ≤ w1.heap.size := (by have := HB.out.2.2.2.2.1; omega); have H1 := Aside0.mk (⟨hr0, hb0, hcp, hz1⟩ : _ ∧ _ ∧ _ ∧ _); have hcx1 := (hb0.block g (by omega)); have hcx1 := (World.cell?_of_block (a := ⟨g, 0, none⟩) hcx1).trans hcx; clear hr0 hb0 hs0 hcx hcp hz1)
   | ((with_reducible refine gate_dst (N := 8) rfl ?_); (refine app_Sall (wa := wb) rfl (.tmp 5) (.tmp 7) rfl v0 [] P A c rfl rfl (g + 3) H1.out.1 H1.out.2.2.1 H1.out.2.1 H1.out.2.2.2 HP1.out ?_); intro v1 w2 hr1 hb1; rw [List.nil_append] at hr1; (obtain ⟨A8, c8, e8⟩ := Kd.R_slice hr1); subst e8; have H2 : Aside0 (OdSt w g QQ (.slice A P.length c) ep lp (.slice A8 P.length c8) P w2) := Aside0.mk ⟨HB.out.2.2.2.1.trans (hb1.mono (by have := HG.out; omega)), (hb1.block _ (by omega)).trans (by rw [← HC.out]; exact HB.out.1), (hb1.block _ (by omega)).trans HB.out.2.1, (hb1.block _ (by omega)).trans (by rw [← HZ36.out.2]; exact HB.out.2.2.1), hr1, (by have := HG.out; have := hb1.size; have := HB.out.2.2.2.2.1; omega)⟩; clear hr1 hb1 hcx1)
   | ((with_reducible refine gate_store (t := 28) (p := 9) rfl ?_); refine wpList_store_run rfl rfl (ad := ⟨g, 0, none⟩) (v := .slice A8 P.length c8) rfl rfl _ (run_c (by kernel_rfl) rfl rfl 0 (by decide) H2.out.bp) ?_; obtain ⟨w3, hw3⟩ : ∃ W, w2.setCell ⟨g, 0, none⟩ (.slice A8 P.length c8) = W := ⟨_, rfl⟩; refine at_world hw3 ?_; have st := H2.out.cell 0 (.slice A8 P.length c8) (set_P0 H2.out.bp); rw [hw3] at st; have H3 := Aside0.mk st; have hy0 := (HCE.out w3 st.bq).1; have hy1 := (HCE.out w3 st.bq).2.1; have hyp := cell_P0 st.bp; clear hw3 st; skip)
   | (go_at_call 6; (with_reducible refine (Key_calls q1 hq1 w3).mono ?_); rintro e wk ⟨rfl, hbk⟩; have H4 := Aside0.mk (H3.out.next hbk); clear hbk)
   | ((with_reducible refine gate_store (t := 9) (p := 51) rfl ?_); refine wpList_store_run rfl rfl (ad := ⟨g, 2, none⟩) (v := .string (keyB q1)) rfl rfl _ (run_c (by kernel_rfl) rfl rfl 2 (by decide) H4.out.bp) ?_; obtain ⟨w4, hww⟩ : ∃ W, wk.setCell ⟨g, 2, none⟩ (.string (keyB q1)) = W := ⟨_, rfl⟩; refine at_world hww ?_; have stF := H4.out.cell 2 (.string (keyB q1)) (set_PK (keyB q1) H4.out.bp); rw [hww] at stF; clear hww; obtain ⟨CF, hCF⟩ : ∃ C, C = cP (.slice A8 P.length c8) ep ⟨keyB q1, lp.v⟩ := ⟨_, rfl⟩; have HF := Aside0.mk (⟨stF, hCF, fun W h => (R_C h).2.2, by omega, by show (keyB q1).size ≤ 100000; have : (keyB q1).size = 4 := rfl; omega⟩ : OdSt w g QQ (.slice A8 P.length c8) ep ⟨keyB q1, lp.v⟩ (.slice A8 P.length c8) P w4 ∧ CF = _ ∧ (∀ W : World, kS.R 30 W (g + 3) (fun _ => True) (.slice A8 P.length c8) P → kS.C W A8 (P).length (P)) ∧ (P).length ≤ 257 ∧ _); clear stF hCF)
   | ((with_reducible refine gate_dst (N := 92) rfl ?_); (refine wpList_loadv rfl 34 _ rfl _ rfl _ (ld_Pf HF.out.2.1 (by rw [HF.out.2.1]; exact HF.out.1.bp)) ?_))
   | ((with_reducible refine gate_store (t := 34) (p := 4) rfl ?_); (refine wpList_store_row rfl 34 (.tmp 4) (.tmp 92) rfl (g + 2) CF rfl rfl 34 (cP (.slice none 0 0) 0 zL) HF.out.1.br (by rw [HF.out.2.1, cP_size]; kernel_rfl) (by rw [HF.out.2.1, cP_size, cP_size]) (by rw [HF.out.2.1]; exact all_one (cP_one rfl _ _)) ?_)))
  refine bodyPost_ret (v := .agg CF) ?_ rfl ⟨⟨P, ep, ⟨keyB q1, lp.v⟩⟩, A8, c8, CF, HF.out.2.1, rfl, HF.out.2.2.1 _ (R_setRow HF.out.1.row (by omega) CF), R_ty (R_setRow HF.out.1.row (by omega) CF), HF.out.2.2.2.1, HF.out.2.2.2.2, below_setRow HF.out.1.below (by have := HF.out.1.lt; omega)⟩
  exact results_cell_row rfl _ _ (g + 2) 34 _ (0, 0) _ rfl (setRow_heap _ _ _ _ _ _ HF.out.1.br) hu36 rfl (by rw [HF.out.2.1, cP_size]; kernel_rfl)
 ·have hf0 : (q0 % 6 == 0) = false := by rw [h]; rfl
  have hf1 : (q0 % 6 == 1) = false := by rw [h]; rfl
  have hf2 : (q0 % 6 == 2) = true := by rw [h]; rfl
  clear h
  obtain ⟨i, hi⟩ : ∃ i, (q1 % 32).toNat = i := ⟨_, rfl⟩
  have hi32 : i < 32 := by omega
  have hti : q1.tmod 32 = (i : Int) := by rw [Int.tmod_eq_emod_of_nonneg hq1.1]; omega
  obtain ⟨b0, hb0⟩ : ∃ b, lp.v.b.getD i 0 = b := ⟨_, rfl⟩
  have hbr : 0 ≤ b0 ∧ b0 < 256 := by
   rw [← hb0, List.getD_eq_getElem?_getD, List.getElem?_eq_getElem (by rw [lp.v.h]; exact hi32)]
   exact lp.v.r _ (List.getElem_mem _)
  have hcb : (cS lp.v).toList[i]? = some (.int .u8 b0) := by
   rw [← hb0, cS, encI]
   simp only [List.toList_toArray]
   rw [List.getElem?_map, List.getD_eq_getElem?_getD, List.getElem?_eq_getElem (by rw [lp.v.h]; exact hi32)]
   rfl
  have HI := Aside0.mk (⟨hi32, hti, hcb, hbr⟩ : _ ∧ _ ∧ _ ∧ _)
  have c7b : ((i : Int) < 32) = True := eq_true (by omega)
  have c7c : ((0 : Int) ≤ (i : Int)) = True := eq_true (by omega)
  clear hi hi32 hti hb0 hcb hbr
  go_enter Tryz.func15, Tryz.ntmps15
  go_wp2_with (first
   | ((with_reducible refine gate_dst (N := 4) rfl ?_); (refine wpList_allocz rfl 34 Z36 rfl HZ36.out.1 ?_); rw [HWB.out, size_alloc, size_alloc, show w.heap.size + 1 + 1 = g + 2 by rw [HG.out], ← HG.out])
   | ((with_reducible refine gate_dst (N := 5) rfl ?_); (refine wpList_bs0 kS (wa := wb) rfl 28 30 rfl rfl 32 32 _ Tryz.underlying28 infoS (g + 3) (Below.refl _ _) (by rw [HB.out.2.2.2.2.1]; exact Nat.le_refl _) ?_); intro v0 w1 hr0 hb0 hs0; have hcp : kS.C w1 A P.length P := Kd.C_below HB.out.2.2.2.2.2 (show Below wb.heap.size wb w1 by rw [HB.out.2.2.2.2.1]; exact hb0); have hz1 : g + 3 ≤ w1.heap.size := (by have := HB.out.2.2.2.2.1; omega); have H1 := Aside0.mk (⟨hr0, hb0, hcp, hz1⟩ : _ ∧ _ ∧ _ ∧ _); have hcx1 := (hb0.block g (by omega)); have hcx1 := (World.cell?_of_block (a := ⟨g, 0, none⟩) hcx1).trans hcx; clear hr0 hb0 hs0 hcx hcp hz1)
   | ((with_reducible refine gate_dst (N := 8) rfl ?_); (refine app_Sall (wa := wb) rfl (.tmp 5) (.tmp 7) rfl v0 [] P A c rfl rfl (g + 3) H1.out.1 H1.out.2.2.1 H1.out.2.1 H1.out.2.2.2 HP1.out ?_); intro v1 w2 hr1 hb1; rw [List.nil_append] at hr1; (obtain ⟨A8, c8, e8⟩ := Kd.R_slice hr1); subst e8; have H2 : Aside0 (OdSt w g QQ (.slice A P.length c) ep lp (.slice A8 P.length c8) P w2) := Aside0.mk ⟨HB.out.2.2.2.1.trans (hb1.mono (by have := HG.out; omega)), (hb1.block _ (by omega)).trans (by rw [← HC.out]; exact HB.out.1), (hb1.block _ (by omega)).trans HB.out.2.1, (hb1.block _ (by omega)).trans (by rw [← HZ36.out.2]; exact HB.out.2.2.1), hr1, (by have := HG.out; have := hb1.size; have := HB.out.2.2.2.2.1; omega)⟩; clear hr1 hb1 hcx1)
   | ((with_reducible refine gate_store (t := 28) (p := 9) rfl ?_); refine wpList_store_run rfl rfl (ad := ⟨g, 0, none⟩) (v := .slice A8 P.length c8) rfl rfl _ (run_c (by kernel_rfl) rfl rfl 0 (by decide) H2.out.bp) ?_; obtain ⟨w3, hw3⟩ : ∃ W, w2.setCell ⟨g, 0, none⟩ (.slice A8 P.length c8) = W := ⟨_, rfl⟩; refine at_world hw3 ?_; have st := H2.out.cell 0 (.slice A8 P.length c8) (set_P0 H2.out.bp); rw [hw3] at st; have H3 := Aside0.mk st; have hy0 := (HCE.out w3 st.bq).1; have hy1 := (HCE.out w3 st.bq).2.1; have hyp := cell_P0 st.bp; clear hw3 st; skip))
  refine start_ (n := 15) (S := fun w' => Below w3.heap.size w3 w') (ds := [14]) #[false, false, false, false, false, false, false, false, false, false, false, false, false, false, false] (by kernel_rfl) rfl rfl (Below.refl _ _).drew (fun hHeld => ?_)
  refine pure_ (i := 0) (N := some 54) (v := ?_) (a' := ?_) #[true, false, false, false, false, false, false, false, false, false, false, false, false, false, false] rfl rfl (by kernel_rfl) (fun _ _ _ h => h) (Or.inl ⟨by rfl, ?_⟩) ?_ ?_
  rotate_left
  ·intro w'
   go_simp
   with_reducible rfl
  rotate_left
  ·simp only [Act.put, lZa, lZb, lZc, i64_w, i32_w]
   rfl
  refine take_ (i := 1) (N := some 55) (v := ?_) (a' := ?_) #[true, true, false, false, false, false, false, false, false, false, false, false, false, false, false] rfl rfl (by kernel_rfl) (fun _ _ _ h => h) (Or.inl ⟨by rfl, ?_⟩) hHeld ?_ ?_
  rotate_left
  ·intro w' hS
   have hx := (HCE.out w' (H3.out.next hS).bq).2.1
   go_simp
   with_reducible rfl
  rotate_left
  ·simp only [Act.put, lZa, lZb, lZc, i64_w, i32_w]
   rfl
  refine pure_ (i := 2) (N := some 56) (v := ?_) (a' := ?_) #[true, true, true, false, false, false, false, false, false, false, false, false, false, false, false] rfl rfl (by kernel_rfl) (fun _ _ _ h => h) (Or.inl ⟨by rfl, ?_⟩) ?_ ?_
  rotate_left
  ·intro w'
   go_simp
   rw [HI.out.2.1]
   try with_reducible rfl
  rotate_left
  ·simp only [Act.put, lZa, lZb, lZc, i64_w, i32_w]
   rfl
  refine pure_ (i := 3) (N := some 57) (v := ?_) (a' := ?_) #[true, true, true, true, false, false, false, false, false, false, false, false, false, false, false] rfl rfl (by kernel_rfl) (fun _ _ _ h => h) (Or.inl ⟨by rfl, ?_⟩) ?_ ?_
  rotate_left
  ·intro w'
   go_simp
   with_reducible rfl
  rotate_left
  ·simp only [Act.put, lZa, lZb, lZc, i64_w, i32_w]
   rfl
  refine pure_ (i := 4) (N := some 58) (v := ?_) (a' := ?_) #[true, true, true, true, true, false, false, false, false, false, false, false, false, false, false] rfl rfl (by kernel_rfl) (fun _ _ _ h => h) (Or.inl ⟨by rfl, ?_⟩) ?_ ?_
  rotate_left
  ·intro w'
   go_simp
   with_reducible rfl
  rotate_left
  ·simp only [Act.put, lZa, lZb, lZc, i64_w, i32_w]
   rfl
  refine pure_ (i := 5) (N := some 59) (v := ?_) (a' := ?_) #[true, true, true, true, true, true, false, false, false, false, false, false, false, false, false] rfl rfl (by kernel_rfl) (fun _ _ _ h => h) (Or.inl ⟨by rfl, ?_⟩) ?_ ?_
  rotate_left
  ·intro w'
   go_simp
   with_reducible rfl
  rotate_left
  ·simp only [Act.put, lZa, lZb, lZc, i64_w, i32_w]
   rfl
  refine take_ (i := 6) (N := some 60) (v := ?_) (a' := ?_) #[true, true, true, true, true, true, true, false, false, false, false, false, false, false, false] rfl rfl (by kernel_rfl) (fun _ _ _ h => h) (Or.inl ⟨by rfl, ?_⟩) hHeld ?_ ?_
  rotate_left
  ·intro w' hS
   have hx : w'.cell? ⟨g, 3 + i, none⟩ = some (.int .u8 b0) := by have h := cells_P3 (H3.out.next hS).bp i _ HI.out.2.2.1; rwa [add_at] at h
   go_simp
   with_reducible rfl
  rotate_left
  ·simp only [Act.put, lZa, lZb, lZc, i64_w, i32_w]
   rfl
  refine pure_ (i := 7) (N := some 61) (v := ?_) (a' := ?_) #[true, true, true, true, true, true, true, true, false, false, false, false, false, false, false] rfl rfl (by kernel_rfl) (fun _ _ _ h => h) (Or.inl ⟨by rfl, ?_⟩) ?_ ?_
  rotate_left
  ·intro w'
   go_simp
   with_reducible rfl
  rotate_left
  ·simp only [Act.put, lZa, lZb, lZc, i64_w, i32_w]
   rfl
  refine take_ (i := 8) (N := some 62) (v := ?_) (a' := ?_) #[true, true, true, true, true, true, true, true, true, false, false, false, false, false, false] rfl rfl (by kernel_rfl) (fun _ _ _ h => h) (Or.inl ⟨by rfl, ?_⟩) hHeld ?_ ?_
  rotate_left
  ·intro w' hS
   have hx := (HCE.out w' (H3.out.next hS).bq).2.2.1
   go_simp
   with_reducible rfl
  rotate_left
  ·simp only [Act.put, lZa, lZb, lZc, i64_w, i32_w]
   rfl
  refine pure_ (i := 9) (N := some 63) (v := ?_) (a' := ?_) #[true, true, true, true, true, true, true, true, true, true, false, false, false, false, false] rfl rfl (by kernel_rfl) (fun _ _ _ h => h) (Or.inl ⟨by rfl, ?_⟩) ?_ ?_
  rotate_left
  ·intro w'
   go_simp
   with_reducible rfl
  rotate_left
  ·simp only [Act.put, lZa, lZb, lZc, i64_w, i32_w]
   rfl
  refine pure_ (i := 10) (N := some 64) (v := ?_) (a' := ?_) #[true, true, true, true, true, true, true, true, true, true, true, false, false, false, false] rfl rfl (by kernel_rfl) (fun _ _ _ h => h) (Or.inl ⟨by rfl, ?_⟩) ?_ ?_
  rotate_left
  ·intro w'
   go_simp
   with_reducible rfl
  rotate_left
  ·simp only [Act.put, lZa, lZb, lZc, i64_w, i32_w]
   rfl
  refine pure_ (i := 11) (N := some 65) (v := ?_) (a' := ?_) #[true, true, true, true, true, true, true, true, true, true, true, true, false, false, false] rfl rfl (by kernel_rfl) (fun _ _ _ h => h) (Or.inl ⟨by rfl, ?_⟩) ?_ ?_
  rotate_left
  ·intro w'
   go_simp
   with_reducible rfl
  rotate_left
  ·simp only [Act.put, lZa, lZb, lZc, i64_w, i32_w]
   rfl
  refine pure_ (i := 12) (N := some 66) (v := ?_) (a' := ?_) #[true, true, true, true, true, true, true, true, true, true, true, true, true, false, false] rfl rfl (by kernel_rfl) (fun _ _ _ h => h) (Or.inl ⟨by rfl, ?_⟩) ?_ ?_
  rotate_left
  ·intro w'
   go_simp
   with_reducible rfl
  rotate_left
  ·simp only [Act.put, lZa, lZb, lZc, i64_w, i32_w]
   rfl
  refine pure_ (i := 13) (N := some 67) (v := ?_) (a' := ?_) #[true, true, true, true, true, true, true, true, true, true, true, true, true, true, false] rfl rfl (by kernel_rfl) (fun _ _ _ h => h) (Or.inl ⟨by rfl, ?_⟩) ?_ ?_
  rotate_left
  ·intro w'
   go_simp
   with_reducible rfl
  rotate_left
  ·simp only [Act.put, lZa, lZb, lZc, i64_w, i32_w]
   rfl
  refine last_ (i := 14) (N := none) #[true, true, true, true, true, true, true, true, true, true, true, true, true, true, true] rfl rfl (by kernel_rfl) (by decide) (fun K hK => ?_)
  refine st_any (by rfl) rfl rfl (ad := ⟨g, 3 + i, none⟩) (v := .int .u8 (bits .xor .u8 b0 (max q2 1))) rfl rfl (run_c (by kernel_rfl) rfl rfl (3 + i) (by have := HI.out.1; omega) (H3.out.next hHeld).bp) ?_
  refine hK.out _ _ ?_
  clear hK K
  refine done_ (by kernel_rfl) ?_
  obtain ⟨lq, hlk, hlq⟩ := set_PB (H3.out.next hHeld).bp i (bits .xor .u8 b0 (max q2 1)) (xor_ok HI.out.2.2.2 (by omega))
  have stF := (H3.out.next hHeld).cell (3 + i) (.int .u8 (bits .xor .u8 b0 (max q2 1))) hlq
  obtain ⟨w4, hww⟩ : ∃ W, (w3.drew).setCell ⟨g, 3 + i, none⟩ (.int .u8 (bits .xor .u8 b0 (max q2 1))) = W := ⟨_, rfl⟩
  rw [hww] at stF ⊢
  have hlqk : lq.k.size ≤ 100000 := by rw [hlk]; exact hks
  obtain ⟨CF, hCF⟩ : ∃ C, C = cP (.slice A8 P.length c8) ep lq := ⟨_, rfl⟩
  have HF := Aside0.mk (⟨stF, hCF, fun W h => (R_C h).2.2, (by omega), hlqk⟩ : OdSt w g QQ (.slice A8 P.length c8) ep lq (.slice A8 P.length c8) P w4 ∧ CF = _ ∧ (∀ W : World, kS.R 30 W (g + 3) (fun _ => True) (.slice A8 P.length c8) P → kS.C W A8 (P).length (P)) ∧ (P).length ≤ 257 ∧ _)
  clear stF hCF
  clear hlk hlq hww hHeld
  go_wp2_with (first
   | ((with_reducible refine gate_dst (N := 92) rfl ?_); (refine wpList_loadv rfl 34 _ rfl _ rfl _ (ld_Pf HF.out.2.1 (by rw [HF.out.2.1]; exact HF.out.1.bp)) ?_))
   | ((with_reducible refine gate_store (t := 34) (p := 4) rfl ?_); (refine wpList_store_row rfl 34 (.tmp 4) (.tmp 92) rfl (g + 2) CF rfl rfl 34 (cP (.slice none 0 0) 0 zL) HF.out.1.br (by rw [HF.out.2.1, cP_size]; kernel_rfl) (by rw [HF.out.2.1, cP_size, cP_size]) (by rw [HF.out.2.1]; exact all_one (cP_one rfl _ _)) ?_)))
  refine bodyPost_ret (v := .agg CF) ?_ rfl ⟨⟨P, ep, lq⟩, A8, c8, CF, HF.out.2.1, rfl, HF.out.2.2.1 _ (R_setRow HF.out.1.row (by omega) CF), R_ty (R_setRow HF.out.1.row (by omega) CF), HF.out.2.2.2.1, HF.out.2.2.2.2, below_setRow HF.out.1.below (by have := HF.out.1.lt; omega)⟩
  exact results_cell_row rfl _ _ (g + 2) 34 _ (0, 0) _ rfl (setRow_heap _ _ _ _ _ _ HF.out.1.br) hu36 rfl (by rw [HF.out.2.1, cP_size]; kernel_rfl)
 ·have hf0 : (q0 % 6 == 0) = false := by rw [h]; rfl
  have hf1 : (q0 % 6 == 1) = false := by rw [h]; rfl
  have hf2 : (q0 % 6 == 2) = false := by rw [h]; rfl
  have hf3 : (q0 % 6 == 3) = true := by rw [h]; rfl
  clear h
  go_enter Tryz.func15, Tryz.ntmps15
  go_wp2_with (first
   | ((with_reducible refine gate_dst (N := 4) rfl ?_); (refine wpList_allocz rfl 34 Z36 rfl HZ36.out.1 ?_); rw [HWB.out, size_alloc, size_alloc, show w.heap.size + 1 + 1 = g + 2 by rw [HG.out], ← HG.out])
   | ((with_reducible refine gate_dst (N := 5) rfl ?_); (refine wpList_bs0 kS (wa := wb) rfl 28 30 rfl rfl 32 32 _ Tryz.underlying28 infoS (g + 3) (Below.refl _ _) (by rw [HB.out.2.2.2.2.1]; exact Nat.le_refl _) ?_); intro v0 w1 hr0 hb0 hs0; have hcp : kS.C w1 A P.length P := Kd.C_below HB.out.2.2.2.2.2 (show Below wb.heap.size wb w1 by rw [HB.out.2.2.2.2.1]; exact hb0); have hz1 : g + 3 ≤ w1.heap.size := (by have := HB.out.2.2.2.2.1; omega); have H1 := Aside0.mk (⟨hr0, hb0, hcp, hz1⟩ : _ ∧ _ ∧ _ ∧ _); have hcx1 := (hb0.block g (by omega)); have hcx1 := (World.cell?_of_block (a := ⟨g, 0, none⟩) hcx1).trans hcx; clear hr0 hb0 hs0 hcx hcp hz1)
   | ((with_reducible refine gate_dst (N := 8) rfl ?_); (refine app_Sall (wa := wb) rfl (.tmp 5) (.tmp 7) rfl v0 [] P A c rfl rfl (g + 3) H1.out.1 H1.out.2.2.1 H1.out.2.1 H1.out.2.2.2 HP1.out ?_); intro v1 w2 hr1 hb1; rw [List.nil_append] at hr1; (obtain ⟨A8, c8, e8⟩ := Kd.R_slice hr1); subst e8; have H2 : Aside0 (OdSt w g QQ (.slice A P.length c) ep lp (.slice A8 P.length c8) P w2) := Aside0.mk ⟨HB.out.2.2.2.1.trans (hb1.mono (by have := HG.out; omega)), (hb1.block _ (by omega)).trans (by rw [← HC.out]; exact HB.out.1), (hb1.block _ (by omega)).trans HB.out.2.1, (hb1.block _ (by omega)).trans (by rw [← HZ36.out.2]; exact HB.out.2.2.1), hr1, (by have := HG.out; have := hb1.size; have := HB.out.2.2.2.2.1; omega)⟩; clear hr1 hb1 hcx1)
   | ((with_reducible refine gate_store (t := 28) (p := 9) rfl ?_); refine wpList_store_run rfl rfl (ad := ⟨g, 0, none⟩) (v := .slice A8 P.length c8) rfl rfl _ (run_c (by kernel_rfl) rfl rfl 0 (by decide) H2.out.bp) ?_; obtain ⟨w3, hw3⟩ : ∃ W, w2.setCell ⟨g, 0, none⟩ (.slice A8 P.length c8) = W := ⟨_, rfl⟩; refine at_world hw3 ?_; have st := H2.out.cell 0 (.slice A8 P.length c8) (set_P0 H2.out.bp); rw [hw3] at st; have H3 := Aside0.mk st; have hy0 := (HCE.out w3 st.bq).1; have hy1 := (HCE.out w3 st.bq).2.1; have hyp := cell_P0 st.bp; clear hw3 st; skip)
   | ((with_reducible refine gate_dst (N := 74) rfl ?_); (refine bld_S1 rfl (.tmp 73) rfl q1 hq1 rfl ?_))
   | ((with_reducible refine gate_dst (N := 75) rfl ?_); (refine bs1_S rfl _ rfl (sB q1) rfl ?_))
   | ((with_reducible refine gate_dst (N := 76) rfl ?_); (refine app_S (wa := w3) rfl (.tmp 71) (.tmp 75) rfl (.slice A8 P.length c8) P (sB q1) rfl rfl (g + 3) H3.out.row (Below.refl _ _) H3.out.lt.2 (by omega) ?_); intro v2 wk hrk hbk hsk; (obtain ⟨P2, hP2⟩ : ∃ P2, P ++ [sB q1] = P2 := ⟨_, rfl⟩); rw [hP2] at hrk; have HP2 := Aside0.mk (show P2.length ≤ 257 by rw [← hP2, List.length_append]; show P.length + 1 ≤ 257; omega); clear hP2; (obtain ⟨A9, c9, e9⟩ := Kd.R_slice hrk); subst e9; have H4 := Aside0.mk (H3.out.nextB hbk hrk); clear hrk hbk hsk)
   | ((with_reducible refine gate_store (t := 28) (p := 77) rfl ?_); refine wpList_store_run rfl rfl (ad := ⟨g, 0, none⟩) (v := .slice A9 P2.length c9) rfl rfl _ (run_c (by kernel_rfl) rfl rfl 0 (by decide) H4.out.bp) ?_; obtain ⟨w4, hww⟩ : ∃ W, wk.setCell ⟨g, 0, none⟩ (.slice A9 P2.length c9) = W := ⟨_, rfl⟩; refine at_world hww ?_; have stF := H4.out.cell 0 (.slice A9 P2.length c9) (set_P0 H4.out.bp); rw [hww] at stF; clear hww; obtain ⟨CF, hCF⟩ : ∃ C, C = cP (.slice A9 P2.length c9) ep lp := ⟨_, rfl⟩; have HF := Aside0.mk (⟨stF, hCF, fun W h => (R_C h).2.2, HP2.out, hks⟩ : OdSt w g QQ (.slice A9 P2.length c9) ep lp (.slice A9 P2.length c9) P2 w4 ∧ CF = _ ∧ (∀ W : World, kS.R 30 W (g + 3) (fun _ => True) (.slice A9 P2.length c9) P2 → kS.C W A9 (P2).length (P2)) ∧ (P2).length ≤ 257 ∧ _); clear stF hCF)
   | ((with_reducible refine gate_dst (N := 92) rfl ?_); (refine wpList_loadv rfl 34 _ rfl _ rfl _ (ld_Pf HF.out.2.1 (by rw [HF.out.2.1]; exact HF.out.1.bp)) ?_))
   | ((with_reducible refine gate_store (t := 34) (p := 4) rfl ?_); (refine wpList_store_row rfl 34 (.tmp 4) (.tmp 92) rfl (g + 2) CF rfl rfl 34 (cP (.slice none 0 0) 0 zL) HF.out.1.br (by rw [HF.out.2.1, cP_size]; kernel_rfl) (by rw [HF.out.2.1, cP_size, cP_size]) (by rw [HF.out.2.1]; exact all_one (cP_one rfl _ _)) ?_)))
  refine bodyPost_ret (v := .agg CF) ?_ rfl ⟨⟨P2, ep, lp⟩, A9, c9, CF, HF.out.2.1, rfl, HF.out.2.2.1 _ (R_setRow HF.out.1.row (by omega) CF), R_ty (R_setRow HF.out.1.row (by omega) CF), HF.out.2.2.2.1, HF.out.2.2.2.2, below_setRow HF.out.1.below (by have := HF.out.1.lt; omega)⟩
  exact results_cell_row rfl _ _ (g + 2) 34 _ (0, 0) _ rfl (setRow_heap _ _ _ _ _ _ HF.out.1.br) hu36 rfl (by rw [HF.out.2.1, cP_size]; kernel_rfl)
 ·have hf0 : (q0 % 6 == 0) = false := by rw [h]; rfl
  have hf1 : (q0 % 6 == 1) = false := by rw [h]; rfl
  have hf2 : (q0 % 6 == 2) = false := by rw [h]; rfl
  have hf3 : (q0 % 6 == 3) = false := by rw [h]; rfl
  have hf4 : (q0 % 6 == 4) = true := by rw [h]; rfl
  clear h
  by_cases hp0 : P.length = 0
  ·have c5 : (0 < P.length) = False := eq_false (by omega)
   have c5b : ((P.length : Int) == 0) = true := by simp [hp0]
   clear hp0
   go_enter Tryz.func15, Tryz.ntmps15
   go_wp2_with (first
    | ((with_reducible refine gate_dst (N := 4) rfl ?_); (refine wpList_allocz rfl 34 Z36 rfl HZ36.out.1 ?_); rw [HWB.out, size_alloc, size_alloc, show w.heap.size + 1 + 1 = g + 2 by rw [HG.out], ← HG.out])
    | ((with_reducible refine gate_dst (N := 5) rfl ?_); (refine wpList_bs0 kS (wa := wb) rfl 28 30 rfl rfl 32 32 _ Tryz.underlying28 infoS (g + 3) (Below.refl _ _) (by rw [HB.out.2.2.2.2.1]; exact Nat.le_refl _) ?_); intro v0 w1 hr0 hb0 hs0; have hcp : kS.C w1 A P.length P := Kd.C_below HB.out.2.2.2.2.2 (show Below wb.heap.size wb w1 by rw [HB.out.2.2.2.2.1]; exact hb0); have hz1 : g + 3 ≤ w1.heap.size := (by have := HB.out.2.2.2.2.1; omega); have H1 := Aside0.mk (⟨hr0, hb0, hcp, hz1⟩ : _ ∧ _ ∧ _ ∧ _); have hcx1 := (hb0.block g (by omega)); have hcx1 := (World.cell?_of_block (a := ⟨g, 0, none⟩) hcx1).trans hcx; clear hr0 hb0 hs0 hcx hcp hz1)
    | ((with_reducible refine gate_dst (N := 8) rfl ?_); (refine app_Sall (wa := wb) rfl (.tmp 5) (.tmp 7) rfl v0 [] P A c rfl rfl (g + 3) H1.out.1 H1.out.2.2.1 H1.out.2.1 H1.out.2.2.2 HP1.out ?_); intro v1 w2 hr1 hb1; rw [List.nil_append] at hr1; (obtain ⟨A8, c8, e8⟩ := Kd.R_slice hr1); subst e8; have H2 : Aside0 (OdSt w g QQ (.slice A P.length c) ep lp (.slice A8 P.length c8) P w2) := Aside0.mk ⟨HB.out.2.2.2.1.trans (hb1.mono (by have := HG.out; omega)), (hb1.block _ (by omega)).trans (by rw [← HC.out]; exact HB.out.1), (hb1.block _ (by omega)).trans HB.out.2.1, (hb1.block _ (by omega)).trans (by rw [← HZ36.out.2]; exact HB.out.2.2.1), hr1, (by have := HG.out; have := hb1.size; have := HB.out.2.2.2.2.1; omega)⟩; clear hr1 hb1 hcx1)
    | ((with_reducible refine gate_store (t := 28) (p := 9) rfl ?_); refine wpList_store_run rfl rfl (ad := ⟨g, 0, none⟩) (v := .slice A8 P.length c8) rfl rfl _ (run_c (by kernel_rfl) rfl rfl 0 (by decide) H2.out.bp) ?_; obtain ⟨w3, hw3⟩ : ∃ W, w2.setCell ⟨g, 0, none⟩ (.slice A8 P.length c8) = W := ⟨_, rfl⟩; refine at_world hw3 ?_; have st := H2.out.cell 0 (.slice A8 P.length c8) (set_P0 H2.out.bp); rw [hw3] at st; have H3 := Aside0.mk st; have hy0 := (HCE.out w3 st.bq).1; have hy1 := (HCE.out w3 st.bq).2.1; have hyp := cell_P0 st.bp; clear hw3 st; have stF := H3.out; obtain ⟨CF, hCF⟩ : ∃ C, C = cP (.slice A8 P.length c8) ep lp := ⟨_, rfl⟩; have HF := Aside0.mk (⟨stF, hCF, fun W h => (R_C h).2.2, (by omega), hks⟩ : OdSt w g QQ (.slice A8 P.length c8) ep lp (.slice A8 P.length c8) P w3 ∧ CF = _ ∧ (∀ W : World, kS.R 30 W (g + 3) (fun _ => True) (.slice A8 P.length c8) P → kS.C W A8 (P).length (P)) ∧ (P).length ≤ 257 ∧ _); clear stF hCF)
    | ((with_reducible refine gate_dst (N := 92) rfl ?_); (refine wpList_loadv rfl 34 _ rfl _ rfl _ (ld_Pf HF.out.2.1 (by rw [HF.out.2.1]; exact HF.out.1.bp)) ?_))
    | ((with_reducible refine gate_store (t := 34) (p := 4) rfl ?_); (refine wpList_store_row rfl 34 (.tmp 4) (.tmp 92) rfl (g + 2) CF rfl rfl 34 (cP (.slice none 0 0) 0 zL) HF.out.1.br (by rw [HF.out.2.1, cP_size]; kernel_rfl) (by rw [HF.out.2.1, cP_size, cP_size]) (by rw [HF.out.2.1]; exact all_one (cP_one rfl _ _)) ?_)))
   refine bodyPost_ret (v := .agg CF) ?_ rfl ⟨⟨P, ep, lp⟩, A8, c8, CF, HF.out.2.1, rfl, HF.out.2.2.1 _ (R_setRow HF.out.1.row (by omega) CF), R_ty (R_setRow HF.out.1.row (by omega) CF), HF.out.2.2.2.1, HF.out.2.2.2.2, below_setRow HF.out.1.below (by have := HF.out.1.lt; omega)⟩
   exact results_cell_row rfl _ _ (g + 2) 34 _ (0, 0) _ rfl (setRow_heap _ _ _ _ _ _ HF.out.1.br) hu36 rfl (by rw [HF.out.2.1, cP_size]; kernel_rfl)
  ·have c5 : (0 < P.length) = True := eq_true (by omega)
   have c5b : ((0 : Int) ≤ (P.length : Int) - 1) = True := eq_true (by omega)
   have c5c : ((P.length : Int) - 1 ≤ (P.length : Int)) = True := eq_true (by omega)
   have c5e : ((P.length : Int) < 1) = False := eq_false (by omega)
   have HP0 := Aside0.mk hp0
   clear hp0
   go_enter Tryz.func15, Tryz.ntmps15
   go_wp2_with (first
    | ((with_reducible refine gate_dst (N := 4) rfl ?_); (refine wpList_allocz rfl 34 Z36 rfl HZ36.out.1 ?_); rw [HWB.out, size_alloc, size_alloc, show w.heap.size + 1 + 1 = g + 2 by rw [HG.out], ← HG.out])
    | ((with_reducible refine gate_dst (N := 5) rfl ?_); (refine wpList_bs0 kS (wa := wb) rfl 28 30 rfl rfl 32 32 _ Tryz.underlying28 infoS (g + 3) (Below.refl _ _) (by rw [HB.out.2.2.2.2.1]; exact Nat.le_refl _) ?_); intro v0 w1 hr0 hb0 hs0; have hcp : kS.C w1 A P.length P := Kd.C_below HB.out.2.2.2.2.2 (show Below wb.heap.size wb w1 by rw [HB.out.2.2.2.2.1]; exact hb0); have hz1 : g + 3 ≤ w1.heap.size := (by have := HB.out.2.2.2.2.1; omega); have H1 := Aside0.mk (⟨hr0, hb0, hcp, hz1⟩ : _ ∧ _ ∧ _ ∧ _); have hcx1 := (hb0.block g (by omega)); have hcx1 := (World.cell?_of_block (a := ⟨g, 0, none⟩) hcx1).trans hcx; clear hr0 hb0 hs0 hcx hcp hz1)
    | ((with_reducible refine gate_dst (N := 8) rfl ?_); (refine app_Sall (wa := wb) rfl (.tmp 5) (.tmp 7) rfl v0 [] P A c rfl rfl (g + 3) H1.out.1 H1.out.2.2.1 H1.out.2.1 H1.out.2.2.2 HP1.out ?_); intro v1 w2 hr1 hb1; rw [List.nil_append] at hr1; (obtain ⟨A8, c8, e8⟩ := Kd.R_slice hr1); subst e8; have H2 : Aside0 (OdSt w g QQ (.slice A P.length c) ep lp (.slice A8 P.length c8) P w2) := Aside0.mk ⟨HB.out.2.2.2.1.trans (hb1.mono (by have := HG.out; omega)), (hb1.block _ (by omega)).trans (by rw [← HC.out]; exact HB.out.1), (hb1.block _ (by omega)).trans HB.out.2.1, (hb1.block _ (by omega)).trans (by rw [← HZ36.out.2]; exact HB.out.2.2.1), hr1, (by have := HG.out; have := hb1.size; have := HB.out.2.2.2.2.1; omega)⟩; clear hr1 hb1 hcx1)
    | ((with_reducible refine gate_store (t := 28) (p := 9) rfl ?_); refine wpList_store_run rfl rfl (ad := ⟨g, 0, none⟩) (v := .slice A8 P.length c8) rfl rfl _ (run_c (by kernel_rfl) rfl rfl 0 (by decide) H2.out.bp) ?_; obtain ⟨w3, hw3⟩ : ∃ W, w2.setCell ⟨g, 0, none⟩ (.slice A8 P.length c8) = W := ⟨_, rfl⟩; refine at_world hw3 ?_; have st := H2.out.cell 0 (.slice A8 P.length c8) (set_P0 H2.out.bp); rw [hw3] at st; have H3 := Aside0.mk st; have hy0 := (HCE.out w3 st.bq).1; have hy1 := (HCE.out w3 st.bq).2.1; have hyp := cell_P0 st.bp; clear hw3 st; have hc8 := (R_C H3.out.row).2.1; have c5d : ((P.length : Int) - 1 ≤ (c8 : Int)) = True := eq_true (by omega); clear hc8)
    | ((with_reducible refine gate_store (t := 28) (p := 91) rfl ?_); refine wpList_store_run rfl rfl (ad := ⟨g, 0, none⟩) (v := .slice A8 (P.length - 1) c8) rfl rfl _ (run_c (by kernel_rfl) rfl rfl 0 (by decide) H3.out.bp) ?_; obtain ⟨w4, hww⟩ : ∃ W, w3.setCell ⟨g, 0, none⟩ (.slice A8 (P.length - 1) c8) = W := ⟨_, rfl⟩; refine at_world hww ?_; have stF := H3.out.cell 0 (.slice A8 (P.length - 1) c8) (set_P0 H3.out.bp); rw [hww] at stF; clear hww; obtain ⟨P2, hP2⟩ : ∃ P2, P.take (P.length - 1) = P2 := ⟨_, rfl⟩; have hl2 : P2.length = P.length - 1 := (by rw [← hP2, List.length_take]; omega); rw [← hl2] at stF; obtain ⟨CF, hCF⟩ : ∃ C, C = cP (.slice A8 P2.length c8) ep lp := ⟨_, rfl⟩; have HF := Aside0.mk (⟨stF, hCF, (fun W h => by rw [← hP2]; exact Kd.C_take (R_C h).2.2 (by omega)), (by omega), hks⟩ : OdSt w g QQ (.slice A8 P2.length c8) ep lp (.slice A8 P.length c8) P w4 ∧ CF = _ ∧ (∀ W : World, kS.R 30 W (g + 3) (fun _ => True) (.slice A8 P.length c8) P → kS.C W A8 (P2).length (P2)) ∧ (P2).length ≤ 257 ∧ _); clear stF hCF; clear hP2 hl2)
    | ((with_reducible refine gate_dst (N := 92) rfl ?_); (refine wpList_loadv rfl 34 _ rfl _ rfl _ (ld_Pf HF.out.2.1 (by rw [HF.out.2.1]; exact HF.out.1.bp)) ?_))
    | ((with_reducible refine gate_store (t := 34) (p := 4) rfl ?_); (refine wpList_store_row rfl 34 (.tmp 4) (.tmp 92) rfl (g + 2) CF rfl rfl 34 (cP (.slice none 0 0) 0 zL) HF.out.1.br (by rw [HF.out.2.1, cP_size]; kernel_rfl) (by rw [HF.out.2.1, cP_size, cP_size]) (by rw [HF.out.2.1]; exact all_one (cP_one rfl _ _)) ?_)))
   case isFalse => exfalso; have := HP0.out; omega
   refine bodyPost_ret (v := .agg CF) ?_ rfl ⟨⟨P2, ep, lp⟩, A8, c8, CF, HF.out.2.1, rfl, HF.out.2.2.1 _ (R_setRow HF.out.1.row (by omega) CF), R_ty (R_setRow HF.out.1.row (by omega) CF), HF.out.2.2.2.1, HF.out.2.2.2.2, below_setRow HF.out.1.below (by have := HF.out.1.lt; omega)⟩
   exact results_cell_row rfl _ _ (g + 2) 34 _ (0, 0) _ rfl (setRow_heap _ _ _ _ _ _ HF.out.1.br) hu36 rfl (by rw [HF.out.2.1, cP_size]; kernel_rfl)
 ·have hf0 : (q0 % 6 == 0) = false := by rw [h]; rfl
  have hf1 : (q0 % 6 == 1) = false := by rw [h]; rfl
  have hf2 : (q0 % 6 == 2) = false := by rw [h]; rfl
  have hf3 : (q0 % 6 == 3) = false := by rw [h]; rfl
  have hf4 : (q0 % 6 == 4) = false := by rw [h]; rfl
  clear h
  by_cases hp0 : P.length = 0
  ·have c5 : (0 < P.length) = False := eq_false (by omega)
   have c5b : ((P.length : Int) == 0) = true := by simp [hp0]
   clear hp0
   go_enter Tryz.func15, Tryz.ntmps15
   go_wp2_with (first
    | ((with_reducible refine gate_dst (N := 4) rfl ?_); (refine wpList_allocz rfl 34 Z36 rfl HZ36.out.1 ?_); rw [HWB.out, size_alloc, size_alloc, show w.heap.size + 1 + 1 = g + 2 by rw [HG.out], ← HG.out])
    | ((with_reducible refine gate_dst (N := 5) rfl ?_); (refine wpList_bs0 kS (wa := wb) rfl 28 30 rfl rfl 32 32 _ Tryz.underlying28 infoS (g + 3) (Below.refl _ _) (by rw [HB.out.2.2.2.2.1]; exact Nat.le_refl _) ?_); intro v0 w1 hr0 hb0 hs0; have hcp : kS.C w1 A P.length P := Kd.C_below HB.out.2.2.2.2.2 (show Below wb.heap.size wb w1 by rw [HB.out.2.2.2.2.1]; exact hb0); have hz1 : g + 3 ≤ w1.heap.size := (by have := HB.out.2.2.2.2.1; omega); have H1 := Aside0.mk (⟨hr0, hb0, hcp, hz1⟩ : _ ∧ _ ∧ _ ∧ _); have hcx1 := (hb0.block g (by omega)); have hcx1 := (World.cell?_of_block (a := ⟨g, 0, none⟩) hcx1).trans hcx; clear hr0 hb0 hs0 hcx hcp hz1)
    | ((with_reducible refine gate_dst (N := 8) rfl ?_); (refine app_Sall (wa := wb) rfl (.tmp 5) (.tmp 7) rfl v0 [] P A c rfl rfl (g + 3) H1.out.1 H1.out.2.2.1 H1.out.2.1 H1.out.2.2.2 HP1.out ?_); intro v1 w2 hr1 hb1; rw [List.nil_append] at hr1; (obtain ⟨A8, c8, e8⟩ := Kd.R_slice hr1); subst e8; have H2 : Aside0 (OdSt w g QQ (.slice A P.length c) ep lp (.slice A8 P.length c8) P w2) := Aside0.mk ⟨HB.out.2.2.2.1.trans (hb1.mono (by have := HG.out; omega)), (hb1.block _ (by omega)).trans (by rw [← HC.out]; exact HB.out.1), (hb1.block _ (by omega)).trans HB.out.2.1, (hb1.block _ (by omega)).trans (by rw [← HZ36.out.2]; exact HB.out.2.2.1), hr1, (by have := HG.out; have := hb1.size; have := HB.out.2.2.2.2.1; omega)⟩; clear hr1 hb1 hcx1)
    | ((with_reducible refine gate_store (t := 28) (p := 9) rfl ?_); refine wpList_store_run rfl rfl (ad := ⟨g, 0, none⟩) (v := .slice A8 P.length c8) rfl rfl _ (run_c (by kernel_rfl) rfl rfl 0 (by decide) H2.out.bp) ?_; obtain ⟨w3, hw3⟩ : ∃ W, w2.setCell ⟨g, 0, none⟩ (.slice A8 P.length c8) = W := ⟨_, rfl⟩; refine at_world hw3 ?_; have st := H2.out.cell 0 (.slice A8 P.length c8) (set_P0 H2.out.bp); rw [hw3] at st; have H3 := Aside0.mk st; have hy0 := (HCE.out w3 st.bq).1; have hy1 := (HCE.out w3 st.bq).2.1; have hyp := cell_P0 st.bp; clear hw3 st; have stF := H3.out; obtain ⟨CF, hCF⟩ : ∃ C, C = cP (.slice A8 P.length c8) ep lp := ⟨_, rfl⟩; have HF := Aside0.mk (⟨stF, hCF, fun W h => (R_C h).2.2, (by omega), hks⟩ : OdSt w g QQ (.slice A8 P.length c8) ep lp (.slice A8 P.length c8) P w3 ∧ CF = _ ∧ (∀ W : World, kS.R 30 W (g + 3) (fun _ => True) (.slice A8 P.length c8) P → kS.C W A8 (P).length (P)) ∧ (P).length ≤ 257 ∧ _); clear stF hCF)
    | ((with_reducible refine gate_dst (N := 92) rfl ?_); (refine wpList_loadv rfl 34 _ rfl _ rfl _ (ld_Pf HF.out.2.1 (by rw [HF.out.2.1]; exact HF.out.1.bp)) ?_))
    | ((with_reducible refine gate_store (t := 34) (p := 4) rfl ?_); (refine wpList_store_row rfl 34 (.tmp 4) (.tmp 92) rfl (g + 2) CF rfl rfl 34 (cP (.slice none 0 0) 0 zL) HF.out.1.br (by rw [HF.out.2.1, cP_size]; kernel_rfl) (by rw [HF.out.2.1, cP_size, cP_size]) (by rw [HF.out.2.1]; exact all_one (cP_one rfl _ _)) ?_)))
   refine bodyPost_ret (v := .agg CF) ?_ rfl ⟨⟨P, ep, lp⟩, A8, c8, CF, HF.out.2.1, rfl, HF.out.2.2.1 _ (R_setRow HF.out.1.row (by omega) CF), R_ty (R_setRow HF.out.1.row (by omega) CF), HF.out.2.2.2.1, HF.out.2.2.2.2, below_setRow HF.out.1.below (by have := HF.out.1.lt; omega)⟩
   exact results_cell_row rfl _ _ (g + 2) 34 _ (0, 0) _ rfl (setRow_heap _ _ _ _ _ _ HF.out.1.br) hu36 rfl (by rw [HF.out.2.1, cP_size]; kernel_rfl)
  ·obtain ⟨j, hj⟩ : ∃ j, (q1 % (P.length : Int)).toNat = j := ⟨_, rfl⟩
   have hj1 := Int.emod_nonneg q1 (show (P.length : Int) ≠ 0 by omega)
   have hj2 := Int.emod_lt_of_pos q1 (show (0 : Int) < (P.length : Int) by omega)
   have htj : q1.tmod (P.length : Int) = (j : Int) := by rw [Int.tmod_eq_emod_of_nonneg hq1.1]; omega
   have hjl : j < P.length := by omega
   obtain ⟨i, hi⟩ : ∃ i, (q2 % 32).toNat = i := ⟨_, rfl⟩
   have hi32 : i < 32 := by omega
   have hti : q2.tmod 32 = (i : Int) := by rw [Int.tmod_eq_emod_of_nonneg hq2.1]; omega
   have hw1 : IntKind.i64.wrap q1 = q1 := by rw [i64_w]; unfold wrap64; omega
   have HI := Aside0.mk (⟨hjl, htj, hi32, hti, hw1⟩ : _ ∧ _ ∧ _ ∧ _ ∧ _)
   have c5 : (0 < P.length) = True := eq_true (by omega)
   have c5z : (P.length = 0) = False := eq_false hp0
   have c5b : ((j : Int) < (P.length : Int)) = True := eq_true (by omega)
   have c5c : ((i : Int) < 32) = True := eq_true (by omega)
   have c5d : ((0 : Int) ≤ (i : Int)) = True := eq_true (by omega)
   have c5e : ((0 : Int) ≤ (j : Int)) = True := eq_true (by omega)
   clear hj hj1 hj2 htj hjl hi hi32 hti hp0 hw1
   go_enter Tryz.func15, Tryz.ntmps15
   go_wp2_with (first
    | ((with_reducible refine gate_dst (N := 4) rfl ?_); (refine wpList_allocz rfl 34 Z36 rfl HZ36.out.1 ?_); rw [HWB.out, size_alloc, size_alloc, show w.heap.size + 1 + 1 = g + 2 by rw [HG.out], ← HG.out])
    | ((with_reducible refine gate_dst (N := 5) rfl ?_); (refine wpList_bs0 kS (wa := wb) rfl 28 30 rfl rfl 32 32 _ Tryz.underlying28 infoS (g + 3) (Below.refl _ _) (by rw [HB.out.2.2.2.2.1]; exact Nat.le_refl _) ?_); intro v0 w1 hr0 hb0 hs0; have hcp : kS.C w1 A P.length P := Kd.C_below HB.out.2.2.2.2.2 (show Below wb.heap.size wb w1 by rw [HB.out.2.2.2.2.1]; exact hb0); have hz1 : g + 3 ≤ w1.heap.size := (by have := HB.out.2.2.2.2.1; omega); have H1 := Aside0.mk (⟨hr0, hb0, hcp, hz1⟩ : _ ∧ _ ∧ _ ∧ _); have hcx1 := (hb0.block g (by omega)); have hcx1 := (World.cell?_of_block (a := ⟨g, 0, none⟩) hcx1).trans hcx; clear hr0 hb0 hs0 hcx hcp hz1)
    | ((with_reducible refine gate_dst (N := 8) rfl ?_); (refine app_Sall (wa := wb) rfl (.tmp 5) (.tmp 7) rfl v0 [] P A c rfl rfl (g + 3) H1.out.1 H1.out.2.2.1 H1.out.2.1 H1.out.2.2.2 HP1.out ?_); intro v1 w2 hr1 hb1; rw [List.nil_append] at hr1; (obtain ⟨A8, c8, e8⟩ := Kd.R_slice hr1); subst e8; have H2 : Aside0 (OdSt w g QQ (.slice A P.length c) ep lp (.slice A8 P.length c8) P w2) := Aside0.mk ⟨HB.out.2.2.2.1.trans (hb1.mono (by have := HG.out; omega)), (hb1.block _ (by omega)).trans (by rw [← HC.out]; exact HB.out.1), (hb1.block _ (by omega)).trans HB.out.2.1, (hb1.block _ (by omega)).trans (by rw [← HZ36.out.2]; exact HB.out.2.2.1), hr1, (by have := HG.out; have := hb1.size; have := HB.out.2.2.2.2.1; omega)⟩; clear hr1 hb1 hcx1)
    | ((with_reducible refine gate_store (t := 28) (p := 9) rfl ?_); refine wpList_store_run rfl rfl (ad := ⟨g, 0, none⟩) (v := .slice A8 P.length c8) rfl rfl _ (run_c (by kernel_rfl) rfl rfl 0 (by decide) H2.out.bp) ?_; obtain ⟨w3, hw3⟩ : ∃ W, w2.setCell ⟨g, 0, none⟩ (.slice A8 P.length c8) = W := ⟨_, rfl⟩; refine at_world hw3 ?_; have st := H2.out.cell 0 (.slice A8 P.length c8) (set_P0 H2.out.bp); rw [hw3] at st; have H3 := Aside0.mk st; have hy0 := (HCE.out w3 st.bq).1; have hy1 := (HCE.out w3 st.bq).2.1; have hyp := cell_P0 st.bp; clear hw3 st; skip))
   obtain ⟨inner, ho⟩ := Kd.R_own H3.out.row
   rcases ho.2 with ⟨e1, h0⟩ | ⟨gP, cap, cur, e1, hgP, hcur, _⟩
   ·exfalso; have := HI.out.1; omega
   obtain rfl : A8 = some ⟨gP, 0, none⟩ := by injection e1
   have HP := Aside0.mk (And.intro hgP hcur)
   obtain ⟨b0, hb0, hcell⟩ := byte_at (R_C H3.out.row).2.2 j HI.out.1 i HI.out.2.2.1
   have HCB := Aside0.mk (⟨hb0, fun W hb => (hb.cell (World.block_lt_of_cell? _ _ hcell)).trans hcell⟩ : (0 ≤ b0 ∧ b0 < 256) ∧ ∀ W, Below w3.heap.size w3 W → W.cell? ⟨gP, j * 32 + i, none⟩ = some (.int .u8 b0))
   clear ho e1 hgP hcur hb0 hcell
   refine start_ (n := 22) (S := fun w' => Below w3.heap.size w3 w') (ds := [21]) #[false, false, false, false, false, false, false, false, false, false, false, false, false, false, false, false, false, false, false, false, false, false] (by kernel_rfl) rfl rfl (Below.refl _ _).drew (fun hHeld => ?_)
   refine pure_ (i := 0) (N := some 17) (v := ?_) (a' := ?_) #[true, false, false, false, false, false, false, false, false, false, false, false, false, false, false, false, false, false, false, false, false, false] rfl rfl (by kernel_rfl) (fun _ _ _ h => h) (Or.inl ⟨by rfl, ?_⟩) ?_ ?_
   rotate_left
   ·intro w'
    go_simp
    with_reducible rfl
   rotate_left
   ·simp only [Act.put, lZa, lZb, lZc, i64_w, i32_w]
    rfl
   refine take_ (i := 1) (N := some 18) (v := ?_) (a' := ?_) #[true, true, false, false, false, false, false, false, false, false, false, false, false, false, false, false, false, false, false, false, false, false] rfl rfl (by kernel_rfl) (fun _ _ _ h => h) (Or.inl ⟨by rfl, ?_⟩) hHeld ?_ ?_
   rotate_left
   ·intro w' hS
    have hx := cell_P0 (H3.out.next hS).bp
    go_simp
    with_reducible rfl
   rotate_left
   ·simp only [Act.put, lZa, lZb, lZc, i64_w, i32_w]
    rfl
   refine pure_ (i := 2) (N := some 19) (v := ?_) (a' := ?_) #[true, true, true, false, false, false, false, false, false, false, false, false, false, false, false, false, false, false, false, false, false, false] rfl rfl (by kernel_rfl) (fun _ _ _ h => h) (Or.inl ⟨by rfl, ?_⟩) ?_ ?_
   rotate_left
   ·intro w'
    go_simp
    with_reducible rfl
   rotate_left
   ·simp only [Act.put, lZa, lZb, lZc, i64_w, i32_w]
    rfl
   refine take_ (i := 3) (N := some 20) (v := ?_) (a' := ?_) #[true, true, true, true, false, false, false, false, false, false, false, false, false, false, false, false, false, false, false, false, false, false] rfl rfl (by kernel_rfl) (fun _ _ _ h => h) (Or.inl ⟨by rfl, ?_⟩) hHeld ?_ ?_
   rotate_left
   ·intro w' hS
    have hx := (HCE.out w' (H3.out.next hS).bq).2.1
    go_simp
    with_reducible rfl
   rotate_left
   ·simp only [Act.put, lZa, lZb, lZc, i64_w, i32_w]
    rfl
   refine pure_ (i := 4) (N := some 21) (v := ?_) (a' := ?_) #[true, true, true, true, true, false, false, false, false, false, false, false, false, false, false, false, false, false, false, false, false, false] rfl rfl (by kernel_rfl) (fun _ _ _ h => h) (Or.inl ⟨by rfl, ?_⟩) ?_ ?_
   rotate_left
   ·intro w'
    go_simp
    rw [HI.out.2.2.2.2]
    try with_reducible rfl
   rotate_left
   ·simp only [Act.put, lZa, lZb, lZc, i64_w, i32_w]
    rfl
   refine pure_ (i := 5) (N := some 22) (v := ?_) (a' := ?_) #[true, true, true, true, true, true, false, false, false, false, false, false, false, false, false, false, false, false, false, false, false, false] rfl rfl (by kernel_rfl) (fun _ _ _ h => h) (Or.inl ⟨by rfl, ?_⟩) ?_ ?_
   rotate_left
   ·intro w'
    go_simp
    with_reducible rfl
   rotate_left
   ·simp only [Act.put, lZa, lZb, lZc, i64_w, i32_w]
    rfl
   refine take_ (i := 6) (N := some 23) (v := ?_) (a' := ?_) #[true, true, true, true, true, true, true, false, false, false, false, false, false, false, false, false, false, false, false, false, false, false] rfl rfl (by kernel_rfl) (fun _ _ _ h => h) (Or.inl ⟨by rfl, ?_⟩) hHeld ?_ ?_
   rotate_left
   ·intro w' hS
    have hx := cell_P0 (H3.out.next hS).bp
    go_simp
    with_reducible rfl
   rotate_left
   ·simp only [Act.put, lZa, lZb, lZc, i64_w, i32_w]
    rfl
   refine pure_ (i := 7) (N := some 24) (v := ?_) (a' := ?_) #[true, true, true, true, true, true, true, true, false, false, false, false, false, false, false, false, false, false, false, false, false, false] rfl rfl (by kernel_rfl) (fun _ _ _ h => h) (Or.inl ⟨by rfl, ?_⟩) ?_ ?_
   rotate_left
   ·intro w'
    go_simp
    with_reducible rfl
   rotate_left
   ·simp only [Act.put, lZa, lZb, lZc, i64_w, i32_w]
    rfl
   refine pure_ (i := 8) (N := some 25) (v := ?_) (a' := ?_) #[true, true, true, true, true, true, true, true, true, false, false, false, false, false, false, false, false, false, false, false, false, false] rfl rfl (by kernel_rfl) (fun _ _ _ h => h) (Or.inl ⟨by rfl, ?_⟩) ?_ ?_
   rotate_left
   ·intro w'
    go_simp
    rw [HI.out.2.1]
    try with_reducible rfl
   rotate_left
   ·simp only [Act.put, lZa, lZb, lZc, i64_w, i32_w]
    rfl
   refine pure_ (i := 9) (N := some 26) (v := ?_) (a' := ?_) #[true, true, true, true, true, true, true, true, true, true, false, false, false, false, false, false, false, false, false, false, false, false] rfl rfl (by kernel_rfl) (fun _ _ _ h => h) (Or.inl ⟨by rfl, ?_⟩) ?_ ?_
   rotate_left
   ·intro w'
    go_simp
    with_reducible rfl
   rotate_left
   ·simp only [Act.put, lZa, lZb, lZc, i64_w, i32_w]
    rfl
   refine take_ (i := 10) (N := some 27) (v := ?_) (a' := ?_) #[true, true, true, true, true, true, true, true, true, true, true, false, false, false, false, false, false, false, false, false, false, false] rfl rfl (by kernel_rfl) (fun _ _ _ h => h) (Or.inl ⟨by rfl, ?_⟩) hHeld ?_ ?_
   rotate_left
   ·intro w' hS
    have hx := (HCE.out w' (H3.out.next hS).bq).2.2.1
    go_simp
    with_reducible rfl
   rotate_left
   ·simp only [Act.put, lZa, lZb, lZc, i64_w, i32_w]
    rfl
   refine pure_ (i := 11) (N := some 28) (v := ?_) (a' := ?_) #[true, true, true, true, true, true, true, true, true, true, true, true, false, false, false, false, false, false, false, false, false, false] rfl rfl (by kernel_rfl) (fun _ _ _ h => h) (Or.inl ⟨by rfl, ?_⟩) ?_ ?_
   rotate_left
   ·intro w'
    go_simp
    rw [HI.out.2.2.2.1]
    try with_reducible rfl
   rotate_left
   ·simp only [Act.put, lZa, lZb, lZc, i64_w, i32_w]
    rfl
   refine pure_ (i := 12) (N := some 29) (v := ?_) (a' := ?_) #[true, true, true, true, true, true, true, true, true, true, true, true, true, false, false, false, false, false, false, false, false, false] rfl rfl (by kernel_rfl) (fun _ _ _ h => h) (Or.inl ⟨by rfl, ?_⟩) ?_ ?_
   rotate_left
   ·intro w'
    go_simp
    with_reducible rfl
   rotate_left
   ·simp only [Act.put, lZa, lZb, lZc, i64_w, i32_w]
    rfl
   refine pure_ (i := 13) (N := some 30) (v := ?_) (a' := ?_) #[true, true, true, true, true, true, true, true, true, true, true, true, true, true, false, false, false, false, false, false, false, false] rfl rfl (by kernel_rfl) (fun _ _ _ h => h) (Or.inl ⟨by rfl, ?_⟩) ?_ ?_
   rotate_left
   ·intro w'
    go_simp
    with_reducible rfl
   rotate_left
   ·simp only [Act.put, lZa, lZb, lZc, i64_w, i32_w]
    rfl
   refine pure_ (i := 15) (N := some 32) (v := ?_) (a' := ?_) #[true, true, true, true, true, true, true, true, true, true, true, true, true, true, false, true, false, false, false, false, false, false] rfl rfl (by kernel_rfl) (fun _ _ _ h => h) (Or.inl ⟨by rfl, ?_⟩) ?_ ?_
   rotate_left
   ·intro w'
    go_simp
    with_reducible rfl
   rotate_left
   ·simp only [Act.put, lZa, lZb, lZc, i64_w, i32_w]
    rfl
   refine take_ (i := 16) (N := some 33) (v := ?_) (a' := ?_) #[true, true, true, true, true, true, true, true, true, true, true, true, true, true, false, true, true, false, false, false, false, false] rfl rfl (by kernel_rfl) (fun _ _ _ h => h) (Or.inl ⟨by rfl, ?_⟩) hHeld ?_ ?_
   rotate_left
   ·intro w' hS
    have hx := (HCE.out w' (H3.out.next hS).bq).2.2.2
    go_simp
    with_reducible rfl
   rotate_left
   ·simp only [Act.put, lZa, lZb, lZc, i64_w, i32_w]
    rfl
   refine pure_ (i := 17) (N := some 34) (v := ?_) (a' := ?_) #[true, true, true, true, true, true, true, true, true, true, true, true, true, true, false, true, true, true, false, false, false, false] rfl rfl (by kernel_rfl) (fun _ _ _ h => h) (Or.inl ⟨by rfl, ?_⟩) ?_ ?_
   rotate_left
   ·intro w'
    go_simp
    with_reducible rfl
   rotate_left
   ·simp only [Act.put, lZa, lZb, lZc, i64_w, i32_w]
    rfl
   refine take_ (i := 14) (N := some 31) (v := ?_) (a' := ?_) #[true, true, true, true, true, true, true, true, true, true, true, true, true, true, true, true, true, true, false, false, false, false] rfl rfl (by kernel_rfl) (fun _ _ _ h => h) (Or.inl ⟨by rfl, ?_⟩) hHeld ?_ ?_
   rotate_left
   ·intro w' hS
    have hx := HCB.out.2 w' hS
    go_simp
    with_reducible rfl
   rotate_left
   ·simp only [Act.put, lZa, lZb, lZc, i64_w, i32_w]
    rfl
   refine pure_ (i := 18) (N := some 35) (v := ?_) (a' := ?_) #[true, true, true, true, true, true, true, true, true, true, true, true, true, true, true, true, true, true, true, false, false, false] rfl rfl (by kernel_rfl) (fun _ _ _ h => h) (Or.inl ⟨by rfl, ?_⟩) ?_ ?_
   rotate_left
   ·intro w'
    go_simp
    with_reducible rfl
   rotate_left
   ·simp only [Act.put, lZa, lZb, lZc, i64_w, i32_w]
    rfl
   refine pure_ (i := 19) (N := some 36) (v := ?_) (a' := ?_) #[true, true, true, true, true, true, true, true, true, true, true, true, true, true, true, true, true, true, true, true, false, false] rfl rfl (by kernel_rfl) (fun _ _ _ h => h) (Or.inl ⟨by rfl, ?_⟩) ?_ ?_
   rotate_left
   ·intro w'
    go_simp
    with_reducible rfl
   rotate_left
   ·simp only [Act.put, lZa, lZb, lZc, i64_w, i32_w]
    rfl
   refine pure_ (i := 20) (N := some 37) (v := ?_) (a' := ?_) #[true, true, true, true, true, true, true, true, true, true, true, true, true, true, true, true, true, true, true, true, true, false] rfl rfl (by kernel_rfl) (fun _ _ _ h => h) (Or.inl ⟨by rfl, ?_⟩) ?_ ?_
   rotate_left
   ·intro w'
    go_simp
    with_reducible rfl
   rotate_left
   ·simp only [Act.put, lZa, lZb, lZc, i64_w, i32_w]
    rfl
   refine last_ (i := 21) (N := none) #[true, true, true, true, true, true, true, true, true, true, true, true, true, true, true, true, true, true, true, true, true, true] rfl rfl (by kernel_rfl) (by decide) (fun K hK => ?_)
   refine st_any (by rfl) rfl rfl (ad := ⟨gP, j * 32 + i, none⟩) (v := .int .u8 (bits .xor .u8 b0 (max q3 1))) rfl rfl (run_storeVar_cell rfl rfl rfl (by kernel_rfl) (HCB.out.2 _ hHeld) (frozen_of_row _ gP _ _ _ (at_next HP.out.2 hHeld))) ?_
   refine hK.out _ _ ?_
   clear hK K
   refine done_ (by kernel_rfl) ?_
   obtain ⟨w4, hww⟩ : ∃ W, (w3.drew).setCell ⟨gP, j * 32 + i, none⟩ (.int .u8 (bits .xor .u8 b0 (max q3 1))) = W := ⟨_, rfl⟩
   have hst := H3.out.next hHeld
   obtain ⟨P2, hl2, hr2⟩ := set_S (R_C hst.row).2.2 (at_next HP.out.2 hHeld) j HI.out.1 i HI.out.2.2.1 (bits .xor .u8 b0 (max q3 1)) (xor_ok HCB.out.1 (by omega)) (W := w4) (by rw [hww])
   have hgP := HP.out.1
   have hbp : w4.heap[g]? = some (.cells (cP (.slice (some ⟨gP, 0, none⟩) P2.length c8) ep lp) 34 (0, 0)) := by rw [← hww, hl2]; exact (heap_setCell_ne (by omega)).trans hst.bp
   have hbr : w4.heap[g + 2]? = some (.cells (cP (.slice none 0 0) 0 zL) 34 (0, 0)) := by rw [← hww]; exact (heap_setCell_ne (by omega)).trans hst.br
   have hbw : Below w.heap.size w w4 := by rw [← hww]; exact hst.below.setCell (p := ⟨gP, j * 32 + i, none⟩) (by have := hst.lt; show w.heap.size ≤ gP; omega) _
   obtain ⟨CF, hCF⟩ : ∃ C, C = cP (.slice (some ⟨gP, 0, none⟩) P2.length c8) ep lp := ⟨_, rfl⟩
   have HF := Aside0.mk (⟨⟨hbw, hbp, hbr, hst.lt.1⟩, hCF, hr2, by omega, hgP, by rw [← hww]; exact heap_setCell_same _ _ _ _ _ _ (at_next HP.out.2 hHeld)⟩ : OdE w g (.slice (some ⟨gP, 0, none⟩) P2.length c8) ep lp w4 ∧ CF = _ ∧ kS.C w4 (some ⟨gP, 0, none⟩) P2.length P2 ∧ P2.length ≤ 257 ∧ g + 3 ≤ gP ∧ w4.heap[gP]? = some (.cells _ 30 (0, 0)))
   rw [hww]
   clear hww hst hl2 hr2 hgP hbp hbr hbw hCF hHeld
   go_wp2_with (first
    | ((with_reducible refine gate_dst (N := 92) rfl ?_); (refine wpList_loadv rfl 34 _ rfl _ rfl _ (ld_Pf HF.out.2.1 (by rw [HF.out.2.1]; exact HF.out.1.bp)) ?_))
    | ((with_reducible refine gate_store (t := 34) (p := 4) rfl ?_); (refine wpList_store_row rfl 34 (.tmp 4) (.tmp 92) rfl (g + 2) CF rfl rfl 34 (cP (.slice none 0 0) 0 zL) HF.out.1.br (by rw [HF.out.2.1, cP_size]; kernel_rfl) (by rw [HF.out.2.1, cP_size, cP_size]) (by rw [HF.out.2.1]; exact all_one (cP_one rfl _ _)) ?_)))
   refine bodyPost_ret (v := .agg CF) ?_ rfl ⟨⟨P2, ep, lp⟩, some ⟨gP, 0, none⟩, c8, CF, HF.out.2.1, rfl, C_keepS HF.out.2.2.1 (setRow_other _ _ _ _ (by have := HF.out.2.2.2.2.1; show gP ≠ g + 2; omega)), (fun ad e => by obtain rfl := Option.some.inj e; exact ⟨_, _, (setRow_other _ _ _ _ (by have := HF.out.2.2.2.2.1; show gP ≠ g + 2; omega)).trans HF.out.2.2.2.2.2⟩), HF.out.2.2.2.1, hks, below_setRow HF.out.1.below (by have := HF.out.1.lt; omega)⟩
   exact results_cell_row rfl _ _ (g + 2) 34 _ (0, 0) _ rfl (setRow_heap _ _ _ _ _ _ HF.out.1.br) hu36 rfl (by rw [HF.out.2.1, cP_size]; kernel_rfl)
end Go.Proofs.YtanabbjakacgbaaGreatDoor.Sp
namespace Go.Proofs.YtanabbjakacgbaaGreatDoor.Sp
open Go.RowKit Go.Proofs.YtanabbjakacgbaaGreatDoorW.PrintWords Go.Proofs.YtanabbjakacgbaaGreatDoorW.PrintLast Go.Proofs.YtanabbjakacgbaaGreatDoorW.PrintMore Go.Proofs.YtanabbjakacgbaaGreatDoor.PM Go.Proofs.YtanabbjakacgbaaGreatDoor.Grow
set_option linter.unusedVariables false
set_option linter.unusedSimpArgs false
set_option maxRecDepth 100000
structure Pv where
 A : Option Addr
 c : Nat
 q : Pf
def cV (x : Pv) : Array Value := cP (.slice x.A x.q.p.length x.c) x.q.e x.q.l
theorem cV_size (x : Pv) : (cV x).size = 35 := cP_size _ _ _
theorem cV_one (x : Pv) : ∀ u ∈ (cV x).toList, u.oneCell' = true := cP_one rfl _ _
structure Gp (w : World) (x : Pv) : Prop where
 C : kS.C w x.A x.q.p.length x.q.p
 ty : Ty27 w x.A
 len : x.q.p.length ≤ 257
 key : x.q.l.k.size ≤ 100000
theorem Gp.below {w w' : World} {x : Pv} (h : Gp w x) (hb : Below w.heap.size w w') : Gp w' x := ⟨Kd.C_below h.C hb, h.ty.below hb, h.len, h.key⟩
theorem Gp.row {w : World} {x : Pv} {b t : Nat} {fr : Nat × Nat} {cells cs : Array Value} (h : Gp w x) (hb : w.heap[b]? = some (.cells cells t fr)) (ht : t ≠ 30) : Gp (w.setRow b cs) x := by
 obtain ⟨A, c, q⟩ := x
 refine ⟨?_, fun ad e => ?_, h.len, h.key⟩
 ·cases A with
  | none => exact ⟨h.C.1, h.C.2.1, fun hn => by obtain ⟨_, e, _⟩ := h.C.2.2 hn; cases e⟩
  | some ad => exact C_keepS h.C (setRow_other _ _ _ _ (h.ty.ne hb ht))
 ·obtain rfl : A = some ad := e
  obtain ⟨cells', fr', h1⟩ := h.ty ad rfl
  exact ⟨cells', fr', (setRow_other _ _ _ _ (h.ty.ne hb ht)).trans h1⟩
theorem oddV_calls (p : Pf) (q0 q1 q2 q3 : Int) (hq0 : 0 ≤ q0 ∧ q0 < 256) (hq1 : 0 ≤ q1 ∧ q1 < 256) (hq2 : 0 ≤ q2 ∧ q2 < 256) (hq3 : 0 ≤ q3 ∧ q3 < 256) (A : Option Addr) (c : Nat) (C QQ : Array Value) (hC : C = cP (.slice A p.p.length c) p.e p.l) (hQ : QQ = #[.int .u8 q0, .int .u8 q1, .int .u8 q2, .int .u8 q3]) (w : World) (hr : kS.C w A p.p.length p.p) (hlen : p.p.length ≤ 256) (hks : p.l.k.size ≤ 100000) :
  Calls Tryz.prog 15 #[.agg C, .agg QQ] w fun e w' => ∃ x : Pv, e = .returned (.agg (cV x)) ∧ Gp w' x ∧ Below w.heap.size w w' := by
 subst hC hQ
 refine (odd_calls p q0 q1 q2 q3 hq0 hq1 hq2 hq3 A c w hr hlen hks).mono ?_
 rintro e w' ⟨q, A', c', C, rfl, rfl, h1, h0, h2, h3, h4⟩
 exact ⟨⟨A', c', q⟩, rfl, ⟨h1, h0, h2, h3⟩, h4⟩
theorem checkV_calls (x : Pv) (root : Sm) (k : ByteArray) (hk1 : k.size ≤ 100000) (w : World) (hW : Words w) (hC : kS.C w x.A x.q.p.length x.q.p) (hlen : x.q.p.length ≤ 257) (hkey : x.q.l.k.size ≤ 100000) (q : Ck) (hq : ckOf root k x.q.p x.q.e x.q.l = q) :
  Calls Tryz.prog 16 #[.agg (cS root), .string k, .agg (cV x)] w fun r w' => r = .returned (.agg (cK q)) ∧ Below w.heap.size w w' :=
 CheckP_calls (p := x.q) rfl root k hk1 hkey (by omega) w hW hC q hq
end Go.Proofs.YtanabbjakacgbaaGreatDoor.Sp
namespace Go.Proofs.YtanabbjakacgbaaGreatDoor.Sp
open Go.RowKit
set_option linter.unusedVariables false
set_option linter.unusedSimpArgs false
theorem cmp_sign : ∀ a b : List UInt8, (Go.Lib.compareBytes a b < 0 ↔ Op.bytesLess a b = true) ∧ (Go.Lib.compareBytes a b = 0 ↔ a = b)
 | [], [] => by simp [Go.Lib.compareBytes, Op.bytesLess]
 | [], _ :: _ => by simp [Go.Lib.compareBytes, Op.bytesLess]
 | _ :: _, [] => by simp [Go.Lib.compareBytes, Op.bytesLess]
 | x :: a, y :: b => by
  have ih := cmp_sign a b
  rw [Go.Lib.compareBytes, Op.bytesLess]
  by_cases h1 : x < y
  ·have h3 : ¬ x = y := fun h => by subst h; exact UInt8.lt_irrefl _ h1
   simp [h1, h3]
  ·by_cases h2 : x = y
   ·subst h2
    simp [UInt8.lt_irrefl]
    exact ih
   ·have h3 : y < x := by
     rcases UInt8.lt_or_lt_of_ne h2 with h | h
     ·exact absurd h h1
     ·exact h
    simp [h1, h2, h3]
def cmpB (a b : ByteArray) : Int := Go.Lib.compareBytes a.data.toList b.data.toList
theorem cmpB_lt (a b : ByteArray) : cmpB a b < 0 ↔ blt a b = true := by
 rw [cmpB, blt, ByteArray.toList_eq, ByteArray.toList_eq]
 exact (cmp_sign _ _).1
theorem cmpB_eq (a b : ByteArray) : cmpB a b = 0 ↔ a = b := by
 rw [cmpB, (cmp_sign _ _).2, ← ByteArray.toList_eq, ← ByteArray.toList_eq]
 exact toList_inj
structure Place (l : List Lf) (k : ByteArray) (i : Nat) : Prop where
 le : i ≤ l.length
 lo : ∀ t, t < i → blt (l.getD t zL).k k = true
 hi : ∀ t, i ≤ t → t < l.length → blt (l.getD t zL).k k = false
end Go.Proofs.YtanabbjakacgbaaGreatDoor.Sp
namespace Go.Proofs.YtanabbjakacgbaaGreatDoor.Sp
open Go.RowKit Go.Proofs.YtanabbjakacgbaaGreatDoorW.PrintWords Go.Proofs.YtanabbjakacgbaaGreatDoorW.PrintLast Go.Proofs.YtanabbjakacgbaaGreatDoorW.PrintMore Go.Proofs.YtanabbjakacgbaaGreatDoor.PM
set_option linter.unusedVariables false
set_option linter.unusedSimpArgs false
set_option maxRecDepth 100000
theorem cmpS_calls (a b : ByteArray) (w : World) : Calls Tryz.prog 84 #[.string a, .string b] w fun e w' => e = .returned (.int .i64 (cmpB a b)) ∧ w' = w := by
 go_enter Tryz.func84, Tryz.ntmps84
 go_wp2
 rw [run_callFunc_extern Tryz.func99 (by kernel_rfl) (by kernel_rfl) (by kernel_rfl) (e := Extern.BytealgCompare.compare) (by kernel_rfl), Lib.run_compareString]
 simp only [Result.andThen]
 rw [Oper.upon_value]
 go_wp2
 go_ret
 exact ⟨rfl, rfl⟩
theorem strCmp_calls (a b : ByteArray) (w : World) : Calls Tryz.prog 69 #[.string a, .string b] w fun e w' => e = .returned (.int .i64 (cmpB a b)) ∧ w' = w := by
 go_enter Tryz.func69, Tryz.ntmps69
 go_wp2_with (go_at_call 84; (with_reducible refine (cmpS_calls a b _).mono ?_); rintro e w' ⟨rfl, rfl⟩)
 go_ret
 exact ⟨rfl, rfl⟩
theorem findC_calls (x : Lf) (k : ByteArray) (w : World) : Calls Tryz.prog 68 #[.agg (cL x), .string k] w fun e w' => e = .returned (.int .i64 (cmpB x.k k)) ∧ Below w.heap.size w w' := by
 obtain ⟨wb, hwb⟩ : ∃ wb, w.alloc (.cells (cL x) 32) = wb := ⟨_, rfl⟩
 have hb : Below w.heap.size w wb := by rw [← hwb]; exact below_alloc (Below.refl _ _) _
 have hx := cell_L0 (show wb.heap[w.heap.size]? = some (.cells (cL x) 32 (0, 0)) by rw [← hwb]; exact h_new rfl)
 have HB := Aside0.mk hb
 have HWB := Aside0.mk hwb
 clear hb hwb
 go_enter Tryz.func68, Tryz.ntmps68
 go_wp2_with (first
  | ((with_reducible refine gate_dst (N := 5) rfl ?_); rw [HWB.out])
  | (go_at_call 69; (with_reducible refine (strCmp_calls x.k k _).mono ?_); rintro e w' ⟨rfl, rfl⟩))
 go_ret
 exact ⟨rfl, HB.out⟩
end Go.Proofs.YtanabbjakacgbaaGreatDoor.Sp
namespace Go.Proofs.YtanabbjakacgbaaGreatDoor.Sp
open Go.RowKit Go.Proofs.YtanabbjakacgbaaGreatDoorW.PrintWords Go.Proofs.YtanabbjakacgbaaGreatDoorW.PrintLast Go.Proofs.YtanabbjakacgbaaGreatDoorW.PrintMore Go.Proofs.YtanabbjakacgbaaGreatDoor.PM
set_option linter.unusedVariables false
set_option linter.unusedSimpArgs false
set_option maxRecDepth 100000
def flL (xs : List Lf) : List Value := xs.flatMap fun x => (cL x).toList
theorem flL_len : ∀ xs : List Lf, (flL xs).length = xs.length * 33
 | [] => rfl
 | x :: xs => by
  rw [flL, List.flatMap_cons, List.length_append, List.length_cons, Array.length_toList, cL_size]
  have := flL_len xs
  rw [flL] at this
  rw [this]; omega
theorem flL_app (xs ys : List Lf) : flL (xs ++ ys) = flL xs ++ flL ys := List.flatMap_append
theorem flL_one (x : Lf) : flL [x] = (cL x).toList := by rw [flL, List.flatMap_cons, List.flatMap_nil, List.append_nil]
theorem flL_take (xs : List Lf) (n : Nat) (hn : n ≤ xs.length) : (flL xs).take (n * 33) = flL (xs.take n) := by
 have h : flL xs = flL (xs.take n) ++ flL (xs.drop n) := by rw [← flL_app, List.take_append_drop]
 rw [h, List.take_left']
 rw [flL_len, List.length_take, Nat.min_eq_left hn]
theorem flL_drop (xs : List Lf) (n : Nat) (hn : n ≤ xs.length) : (flL xs).drop (n * 33) = flL (xs.drop n) := by
 have h : flL xs = flL (xs.take n) ++ flL (xs.drop n) := by rw [← flL_app, List.take_append_drop]
 rw [h, List.drop_left']
 rw [flL_len, List.length_take, Nat.min_eq_left hn]
theorem flL_cell (xs : List Lf) : ∀ u ∈ flL xs, u.oneCell' = true := fun u hu => by
 obtain ⟨x, _, hx⟩ := List.mem_flatMap.1 hu
 exact cL_one x u hx
theorem reps_flL : ∀ xs : List Lf, Reps (fun x cs => cs = (cL x).toList) 33 xs (flL xs) := fun xs => by
 refine ⟨flL_len xs, fun j p hj => ?_⟩
 have hl : j < xs.length := (List.getElem?_eq_some_iff.1 hj).1
 obtain rfl : xs[j] = p := (List.getElem?_eq_some_iff.1 hj).2
 rw [flL_drop xs j (by omega), List.drop_eq_getElem_cons hl, ← List.singleton_append, flL_app, flL_one, List.take_left']
 rw [Array.length_toList, cL_size]
theorem flL_of : ∀ (xs : List Lf) (cs : List Value), Reps (fun x c => c = (cL x).toList) 33 xs cs → cs = flL xs
 | [], cs, h => by
  have := h.1
  exact List.eq_nil_of_length_eq_zero (by simpa using this)
 | x :: xs, cs, h => by
  have h0 := h.2 0 x rfl
  rw [Nat.zero_mul, List.drop_zero] at h0
  have hl := h.1
  rw [List.length_cons] at hl
  have ht : Reps (fun x c => c = (cL x).toList) 33 xs (cs.drop 33) := ⟨by rw [List.length_drop, hl]; omega, fun j p hj => by
   have := h.2 (j + 1) p (by simpa using hj)
   rw [List.drop_drop]
   rwa [show 33 + j * 33 = (j + 1) * 33 by omega]⟩
  rw [← List.take_append_drop 33 cs, h0, flL_of xs _ ht, ← List.singleton_append, flL_app, flL_one]
section
variable {P : Program} {w W : World} {base : Nat} {ok : Nat → Prop} {v : Value} {xs : List Lf}
theorem R_cells (h : kL.R 32 W base ok v xs) : (v = .slice none 0 0 ∧ xs = []) ∨ ∃ g cap cur, v = .slice (some ⟨g, 0, none⟩) xs.length cap ∧ base ≤ g ∧ W.heap[g]? = some (.cells cur 32 (0, 0)) ∧ xs.length ≤ cap ∧ cap ≤ maxLen ∧ cur.size = cap * 33 ∧ cur.toList.take (xs.length * 33) = flL xs := by
 obtain ⟨_, inner, ho, hr⟩ := h
 obtain rfl := flL_of xs inner hr
 rcases ho.2 with ⟨h1, h2⟩ | ⟨g, cap, cur, h1, h2, h3, h4, h5, h6, h7⟩
 ·exact .inl ⟨h1, List.eq_nil_of_length_eq_zero h2⟩
 ·exact .inr ⟨g, cap, cur, h1, h2, h3, h4, h5, h6, h7⟩
theorem R_of_cells {g cap : Nat} {cur : Array Value} (hb : base ≤ g) (hh : W.heap[g]? = some (.cells cur 32 (0, 0))) (hn : xs.length ≤ cap) (hm : cap ≤ maxLen) (hs : cur.size = cap * 33) (ht : cur.toList.take (xs.length * 33) = flL xs) : kL.R 32 W base (fun _ => True) (.slice (some ⟨g, 0, none⟩) xs.length cap) xs :=
 ⟨fun _ _ => trivial, flL xs, ⟨flL_len xs, .inr ⟨g, cap, cur, rfl, hb, hh, hn, hm, hs, ht⟩⟩, reps_flL xs⟩
theorem run_copy_rows (w : World) (dT sT ty elem : TypeId) (sz b o dLen dCap : Nat) (a : Addr) (sLen sCap n : Nat) (cs : List Value)
  (hu : P.underlying dT = some (.slice elem)) (hs : (P.info? elem).map (·.size) = some sz) (hn : n = Nat.min sLen dLen) (hl : cs.length = n * sz)
  (hsrc : ∀ j v, cs[j]? = some v → w.cell? (a.add j) = some v) (hc : ∀ j, j < cs.length → (w.cell? ⟨b, o + j, none⟩).isSome = true) (hf : ∀ j, j < cs.length → w.frozen? ⟨b, o + j, none⟩ = false) (h1 : ∀ v ∈ cs, v.oneCell' = true) :
  (Builtin.copy_ #[dT, sT] ty #[.slice (some ⟨b, o, none⟩) dLen dCap, .slice (some a) sLen sCap]).run P w = .ok (goInt n) (w.setCells b o cs) := by
 have hl1 := run_loadCells_list (P := P) w a cs hsrc
 have hst := run_storeCells_cells (P := P) b o cs 0 w (by simpa using hc) (by simpa using hf) h1
 rw [hl] at hl1
 cases hq : P.info? elem with
 | none => simp [hq] at hs
 | some i =>
  have hi : i.size = sz := by simpa [hq] using hs
  simp [Builtin.copy_, run_underlying hu, Builtin.lenOf, Builtin.firstCells, sizeOf, typeInfo, hq, hi, ← hn, hl1, hst]
theorem shift_R {g cap i : Nat} {cur : Array Value} {x : Lf} (hb : base ≤ g) (hh : W.heap[g]? = some (.cells cur 32 (0, 0))) (hn : xs.length + 1 ≤ cap) (hm : cap ≤ maxLen) (hs : cur.size = cap * 33) (ht : cur.toList.take (xs.length * 33) = flL xs) (hi : i ≤ xs.length) :
  ∃ cur1, (W.setCells g ((i + 1) * 33) (flL (xs.drop i))).heap[g]? = some (.cells cur1 32 (0, 0)) ∧ cur1.size = cur.size ∧ kL.R 32 ((W.setCells g ((i + 1) * 33) (flL (xs.drop i))).setCells g (i * 33) (cL x).toList) base (fun _ => True) (.slice (some ⟨g, 0, none⟩) (xs.length + 1) cap) (xs.take i ++ x :: xs.drop i) := by
 have hld : (flL (xs.drop i)).length = (xs.length - i) * 33 := by rw [flL_len, List.length_drop]
 have hmul : cap * 33 = (cap - (xs.length + 1)) * 33 + (xs.length + 1) * 33 := by rw [← Nat.add_mul]; congr 1; omega
 obtain ⟨c1, h1, s1, t1⟩ := setCells_row (flL (xs.drop i)) ((i + 1) * 33) W cur hh (by rw [hld]; omega)
 obtain ⟨c2, h2, s2, t2⟩ := setCells_row (cL x).toList (i * 33) _ c1 h1 (by rw [Array.length_toList, cL_size]; omega)
 refine ⟨c1, h1, s1, ?_⟩
 have hll : (xs.take i ++ x :: xs.drop i).length = xs.length + 1 := by rw [List.length_append, List.length_cons, List.length_take, List.length_drop]; omega
 have hcl : cur.toList.length = cur.size := Array.length_toList
 have e0 : cur.toList.take (i * 33) = flL (xs.take i) := by
  rw [← flL_take xs i hi, ← ht, List.take_take]
  congr 1
  omega
 have l1 : (cur.toList.take ((i + 1) * 33)).length = (i + 1) * 33 := by rw [List.length_take, hcl, hs]; omega
 have lx : (cL x).toList.length = 33 := by rw [Array.length_toList, cL_size]
 have k1 : c1.toList.take (i * 33) = flL (xs.take i) := by
  rw [t1, List.append_assoc, List.take_append_of_le_length (by rw [l1]; omega), List.take_take, Nat.min_eq_left (by omega), e0]
 have k2 : c1.toList.drop (i * 33 + 33) = flL (xs.drop i) ++ cur.toList.drop ((i + 1) * 33 + (flL (xs.drop i)).length) := by
  rw [t1, List.append_assoc, List.drop_left']
  rw [l1]; omega
 have k3 : c2.toList.take ((xs.length + 1) * 33) = flL (xs.take i ++ x :: xs.drop i) := by
  rw [t2, lx, k1, k2, ← List.append_assoc, List.take_left', flL_app, ← List.singleton_append, flL_app, flL_one, List.append_assoc]
  rw [List.length_append, List.length_append, flL_len, lx, hld, List.length_take, Nat.min_eq_left hi]; omega
 have := R_of_cells (xs := xs.take i ++ x :: xs.drop i) hb h2 (by rw [hll]; exact hn) hm (by rw [s2, s1, hs]) (by rw [hll]; exact k3)
 rw [hll] at this
 exact this
end
end Go.Proofs.YtanabbjakacgbaaGreatDoor.Sp
namespace Go.Proofs.YtanabbjakacgbaaGreatDoor.Sp
open Go.RowKit Go.Proofs.YtanabbjakacgbaaGreatDoorW.PrintWords Go.Proofs.YtanabbjakacgbaaGreatDoorW.PrintLast Go.Proofs.YtanabbjakacgbaaGreatDoorW.PrintMore Go.Proofs.YtanabbjakacgbaaGreatDoor.PM
set_option linter.unusedVariables false
set_option linter.unusedSimpArgs false
set_option maxRecDepth 100000
section
variable {W : World} {base : Nat} {xs : List Lf}
theorem grow_R {g cap i : Nat} {cur : Array Value} {x : Lf} (hb : base ≤ g) (hh : W.heap[g]? = some (.cells cur 32 (0, 0))) (hn : xs.length + 1 ≤ cap) (hm : cap ≤ maxLen) (hs : cur.size = cap * 33) (ht : cur.toList.take (i * 33) = flL (xs.take i)) (hi : i ≤ xs.length) :
  ∃ cur1, (W.setCells g (i * 33) (cL x).toList).heap[g]? = some (.cells cur1 32 (0, 0)) ∧ cur1.size = cur.size ∧ kL.R 32 ((W.setCells g (i * 33) (cL x).toList).setCells g ((i + 1) * 33) (flL (xs.drop i))) base (fun _ => True) (.slice (some ⟨g, 0, none⟩) (xs.length + 1) cap) (xs.take i ++ x :: xs.drop i) := by
 have hld : (flL (xs.drop i)).length = (xs.length - i) * 33 := by rw [flL_len, List.length_drop]
 have hmul : cap * 33 = (cap - (xs.length + 1)) * 33 + (xs.length + 1) * 33 := by rw [← Nat.add_mul]; congr 1; omega
 have lx : (cL x).toList.length = 33 := by rw [Array.length_toList, cL_size]
 obtain ⟨c1, h1, s1, t1⟩ := setCells_row (cL x).toList (i * 33) W cur hh (by rw [lx]; omega)
 obtain ⟨c2, h2, s2, t2⟩ := setCells_row (flL (xs.drop i)) ((i + 1) * 33) _ c1 h1 (by rw [hld]; omega)
 refine ⟨c1, h1, s1, ?_⟩
 have hll : (xs.take i ++ x :: xs.drop i).length = xs.length + 1 := by rw [List.length_append, List.length_cons, List.length_take, List.length_drop]; omega
 have lt : (flL (xs.take i)).length = i * 33 := by rw [flL_len, List.length_take, Nat.min_eq_left hi]
 have k1 : c1.toList.take ((i + 1) * 33) = flL (xs.take i) ++ (cL x).toList := by
  rw [t1, ht, List.take_left']
  rw [List.length_append, lt, lx]; omega
 have k3 : c2.toList.take ((xs.length + 1) * 33) = flL (xs.take i ++ x :: xs.drop i) := by
  rw [t2, k1, List.take_left', flL_app, ← List.singleton_append, flL_app, flL_one, List.append_assoc]
  rw [List.length_append, List.length_append, lt, lx, hld]; omega
 have := R_of_cells (xs := xs.take i ++ x :: xs.drop i) hb h2 (by rw [hll]; exact hn) hm (by rw [s2, s1, hs]) (by rw [hll]; exact k3)
 rw [hll] at this
 exact this
theorem app_Lall {wa W : World} {ops : Array Oper} {rest : List Oper} {o : Oper} {a : Act} {Q : Exit → Act → World → Prop} (hg : o.guard = none) (s x : Operand) (ho : o.op = .call { callee := .builtin .append, args := #[s, x], argTypes := #[25, 25] }) (v : Value) (xs ys : List Lf) (A : Option Addr) (c : Nat) (hs : a.eval s = v) (hx : a.eval x = .slice A ys.length c) (B : Nat) (HO : kL.R 32 W B (fun _ => True) v xs) (HR : kL.C W A ys.length ys) (HB : Below B wa W) (hB : B ≤ W.heap.size) (hl : xs.length + ys.length ≤ 1000000)
  (h : ∀ v1 w1, kL.R 32 w1 B (fun _ => True) v1 (xs ++ ys) → Below B wa w1 → W.grownBy w1 v.ownBlock → wpList Tryz.prog ops Q rest (a.put o.dst v1) w1) : wpList Tryz.prog ops Q (o :: rest) a W :=
 Kd.R_append_rows kL (w0 := wa) B hg s x 25 32 (.agg (cL zL)) 48 ho Tryz.underlying25 infoL (cL_size _) (by decide) (by decide) v xs ys A ys.length c (fun _ => True) (fun _ => False) hs hx HO HR (fun _ _ h => h) (fun _ h => h.elim) (fun _ _ => trivial) HB hB (by omega) (fun v1 w1 h1 h2 h3 _ => h v1 w1 h1 h2 h3)
end
theorem one_C {w : World} {h : Nat} {x : Lf} (hx : w.heap[h]? = some (.cells (cL x) 32 (0, 0))) : kL.C w (some ⟨h, 0, none⟩) 1 [x] := ⟨rfl, by decide, fun _ => ⟨_, rfl, fun j p hj => by
 have h0 : j = 0 := by have := (List.getElem?_eq_some_iff.1 hj).1; simp at this; exact this
 subst h0
 obtain rfl : x = p := by simpa using hj
 refine ⟨(cL x).toList, by rw [Array.length_toList, cL_size]; rfl, rfl, fun i u hu => ?_⟩
 rw [add_at, cell_of_row w h _ _ 32 _ hx]
 simpa using hu⟩⟩
theorem drew_cells (b : Nat) : ∀ (vs : List Value) (o : Nat) (w : World), (w.setCells b o vs).drew = w.drew.setCells b o vs
 | [], _, _ => rfl
 | v :: r, o, w => by rw [World.setCells, World.setCells, drew_cells b r]; rfl
theorem le8 {i k n : Nat} (hk : i + 1 = k) (hlt : i < n) : ((k : Int) ≤ (n : Int) + 1) = True := eq_true (by omega)
theorem ne9 {i k n G : Nat} (hk : i + 1 = k) (hlt : i < n) (h : n + 1 ≤ G) : (G = k) = False := eq_false (by omega)
theorem ne11 {i n : Nat} (hlt : i < n) : (n = i) = False := eq_false (by omega)
theorem w64k {i k n : Nat} (hk : i + 1 = k) (hlt : i < n) (hl : n ≤ 100000) : wrap64 ((i : Int) + 1) = (k : Int) := by unfold wrap64; omega
theorem mnk {i k n : Nat} (hk : i + 1 = k) (hlt : i < n) : n - i = Nat.min (n - i) (n + 1 - k) := by show _ = min _ _; omega
theorem ink {i k n G j z : Nat} (hk : i + 1 = k) (hlt : i < n) (h : n + 1 ≤ G) (hm : G * 33 = (G - (n + 1)) * 33 + (n + 1) * 33) (hz : z = G * 33) (hj : j < (n - i) * 33) : k * 33 + j < z := by omega
theorem in0 {i n G j z : Nat} (hlt : i < n) (h : n + 1 ≤ G) (hm : G * 33 = (G - (n + 1)) * 33 + (n + 1) * 33) (hz : z = G * 33) (hj : j < 33) : i * 33 + j < z := by omega
theorem exec_copy {P : Program} {oi : Oper} {a : Act} {w w' : World} {d x : Operand} {t t' : TypeId} {v u v' : Value} (ho : oi.op = .call { callee := .builtin .copy, args := #[d, x], argTypes := #[t, t'] }) (hd : a.eval d = v) (hx : a.eval x = u) (hr : (Builtin.copy_ #[t, t'] oi.type #[v, u]).run P w = .ok v' w') :
  (execOp a.eval oi).run P w = .ok (.value v') w' := by
 unfold execOp
 simp only [ho, resolve, invoke, builtin, Sem.run_bind, Sem.run_pure, Result.andThen_ok, List.map_toArray, List.map_cons, List.map_nil, hd, hx, hr]
set_option maxHeartbeats 4000000 in
theorem insert_calls (l : List Lf) (x : Lf) (i : Nat) (v : Value) (h base : Nat) (w0 w : World) (hr : kL.R 32 w base (fun _ => True) v l) (hbx : w.heap[h]? = some (.cells (cL x) 32 (0, 0))) (hne : v.ownBlock ≠ some h) (hi : i ≤ l.length) (hl : l.length ≤ 100000) (HB : Below base w0 w) (hbase : base ≤ w.heap.size) :
  Calls Tryz.prog 44 #[v, .int .i64 i, .slice (some ⟨h, 0, none⟩) 1 1] w fun e w' => ∃ v', e = .returned v' ∧ kL.R 32 w' base (fun _ => True) v' (l.take i ++ x :: l.drop i) ∧ Below base w0 w' := by
 rcases R_cells hr with ⟨rfl, rfl⟩ | ⟨g, cap, cur, rfl, hbg, hh, hn, hm, hs, ht⟩
 ·have hC := Aside0.mk (one_C hbx)
  have HS := Aside0.mk (And.intro hr HB)
  obtain rfl : i = 0 := by simpa using hi
  clear hr hbx HB hne hi
  go_enter Tryz.func44, Tryz.ntmps44
  go_wp2_with (first
   | ((with_reducible refine gate_dst (N := 25) rfl ?_); (refine app_Lall (wa := w0) rfl (.tmp 23) (.tmp 24) rfl (.slice none 0 0) [] [x] (some ⟨h, 0, none⟩) 1 rfl rfl base HS.out.1 hC.out HS.out.2 hbase (by simp) ?_); intro v1 w1 hv1 hb1 hg1; have H1 := Aside0.mk (And.intro hv1 hb1); clear hv1 hb1 hg1))
  go_ret
  exact ⟨_, rfl, H1.out.1, H1.out.2⟩
 ·by_cases hin : i = l.length
  ·subst hin
   have hC := Aside0.mk (one_C hbx)
   have HS := Aside0.mk (And.intro hr HB)
   have c5 : ((l.length : Int) ≤ (cap : Int)) = True := eq_true (by omega)
   clear hr hbx HB hne hi
   go_enter Tryz.func44, Tryz.ntmps44
   go_wp2_with (first
    | ((with_reducible refine gate_dst (N := 25) rfl ?_); (refine app_Lall (wa := w0) rfl (.tmp 23) (.tmp 24) rfl (.slice (some ⟨g, 0, none⟩) l.length cap) l [x] (some ⟨h, 0, none⟩) 1 rfl rfl base HS.out.1 hC.out HS.out.2 hbase (by simp; omega) ?_); intro v1 w1 hv1 hb1 hg1; have H1 := Aside0.mk (And.intro hv1 hb1); clear hv1 hb1 hg1))
   all_goals
    go_ret
    exact ⟨v1, rfl, (by first | exact H1.out.1 | (rw [List.take_length, List.drop_length]; exact H1.out.1)), H1.out.2⟩
  ·have hlt : i < l.length := by omega
   have HX := Aside0.mk (⟨hr, hbx, HB, hh, hbg⟩ : _ ∧ _ ∧ _ ∧ _ ∧ _)
   have hgh : h ≠ g := fun e => hne (by rw [e]; rfl)
   have c1 : ((i : Int) ≤ (l.length : Int)) = True := eq_true (by omega)
   have c2 : ((i : Int) = (l.length : Int)) = False := eq_false (by omega)
   have c3 : (i = l.length) = False := eq_false hin
   have c4 : (i ≤ cap) = True := eq_true (by omega)
   have c6 : (cap - i = 0) = False := eq_false (by omega)
   clear hr hbx HB hne hi
   rcases Nat.lt_or_ge cap (l.length + 1) with hroom | hroom
   ·obtain rfl : cap = l.length := by omega
    have c7 : ((l.length : Int) < (l.length : Int) + 1) = True := eq_true (by omega)
    obtain ⟨i0, hi0, hzz⟩ := Option.map_eq_some_iff.1 infoL
    simp only [Prod.mk.injEq] at hzz
    obtain ⟨hz0, hz1, hz2⟩ := hzz
    have hold : (Builtin.firstCells i0.size i (.slice (some ⟨g, 0, none⟩) i l.length)).run Tryz.prog w.drew = .ok (flL (l.take i)).toArray w.drew := by
     rw [hz1]
     exact run_firstCells_some w.drew 33 i ⟨g, 0, none⟩ i l.length (flL (l.take i)) (by rw [flL_len, List.length_take, Nat.min_eq_left (by omega)]) (fun j v hj => by
      rw [add_at, Nat.zero_add, cell_of_row w.drew g _ cur 32 _ HX.out.2.2.2.1]
      rw [← flL_take l i (by omega), ← ht, List.take_take, List.getElem?_take] at hj
      split at hj
      ·rwa [Array.getElem?_toList] at hj
      ·cases hj)
    obtain ⟨G, hG⟩ : ∃ G, G = grownCap w (l.length + 1) l.length 32 := ⟨_, rfl⟩
    have hGge : l.length + 1 ≤ G := by rw [hG]; exact grownCap_ge _ _ _ _
    have hGle : G ≤ maxLen := by rw [hG]; exact grownCap_le_maxLen _ _ _ _ (by simp only [maxLen]; omega)
    obtain ⟨ROW, hROW⟩ : ∃ ROW : Array Value, ROW = (flL (l.take i)).toArray ++ Builtin.zeroCells (cL zL) (l.length + 1 - i) ++ Builtin.zeroCells (cL zL) (G - (l.length + 1)) := ⟨_, rfl⟩
    have hRs : ROW.size = G * 33 := by
     rw [hROW]
     simp only [Array.size_append, List.size_toArray, Builtin.zeroCells, Array.size_map, Array.size_range, cL_size, flL_len, List.length_take, Nat.min_eq_left (Nat.le_of_lt hlt)]
     rw [← Nat.add_mul, ← Nat.add_mul]
     congr 1
     omega
    have hRt : ROW.toList.take (i * 33) = flL (l.take i) := by
     rw [hROW, Array.toList_append, Array.toList_append, List.append_assoc, List.take_left']
     rw [flL_len, List.length_take, Nat.min_eq_left (Nat.le_of_lt hlt)]
    obtain ⟨W1, hW1⟩ : ∃ W1, W1 = w.drew.alloc (.cells ROW 32) := ⟨_, rfl⟩
    obtain ⟨N, hN⟩ : ∃ N, N = w.heap.size := ⟨_, rfl⟩
    have hrz : (Builtin.append_ #[25, 3] 25 #[.slice (some ⟨g, 0, none⟩) i l.length, .int .i64 ((l.length : Int) + 1 - (i : Int))]).run Tryz.prog w = .ok (.slice (some ⟨N, 0, none⟩) (l.length + 1) G) W1 := by
     have h := Lib.run_append_grow_zeros w 25 3 25 32 i0 _ .i64 .i64 Tryz.underlying25 Tryz.underlying3 hi0 hz0 (some ⟨g, 0, none⟩) i l.length (flL (l.take i)) hold (l.length + 1 - i) (by omega) (by omega) (by omega) (by omega) (by rw [hz2]; omega) (by rw [hz2, show i + (l.length + 1 - i) = l.length + 1 by omega]; exact growslice_fits (by omega) (by omega))
     rw [show i + (l.length + 1 - i) = l.length + 1 by omega, ← hG] at h
     rw [show ((l.length : Int) + 1 - (i : Int)) = ((l.length + 1 - i : Nat) : Int) by omega, h, hW1, hROW, hN]
     rfl
    have hw0 : W1.heap[N]? = some (.cells ROW 32 (0, 0)) := by rw [hW1]; exact h_new hN
    have hgN : g < N := by rw [hN]; exact (Array.getElem?_eq_some_iff.1 hh).1
    have hhN : h < N := by rw [hN]; exact (Array.getElem?_eq_some_iff.1 HX.out.2.1).1
    have hw1 : W1.heap[g]? = some (.cells cur 32 (0, 0)) := by rw [hW1, h_old (by show g < w.heap.size; rw [← hN]; exact hgN)]; exact hh
    have hw2 : W1.heap[h]? = some (.cells (cL x) 32 (0, 0)) := by rw [hW1, h_old (by show h < w.heap.size; rw [← hN]; exact hhN)]; exact HX.out.2.1
    have hbw : Below base w0 W1 := by rw [hW1]; exact below_tr HX.out.2.2.1 (below_alloc (Below.refl _ _).drew _) hbase
    have hbN : base ≤ N := by rw [hN]; exact hbase
    clear hW1 hN hG hROW hold hi0 hz0 hz1 hz2
    go_enter Tryz.func44, Tryz.ntmps44
    have d1 : (i ≤ G) = True := eq_true (by omega)
    have d2 : ((i : Int) ≤ (l.length : Int) + 1) = True := eq_true (by omega)
    have d3 : (G = i) = False := eq_false (by omega)
    go_wp2_with (first
     | ((with_reducible refine gate_dst (N := 40) rfl ?_); (refine Lib.wpList_append_run _ rfl _ _ _ _ rfl _ _ rfl rfl _ _ hrz ?_)))
    have hmul := Aside0.mk (show G * 33 = (G - (l.length + 1)) * 33 + (l.length + 1) * 33 by rw [← Nat.add_mul]; congr 1; omega)
    obtain ⟨cur1, hc1, hs1, hR⟩ := grow_R (W := W1) (x := x) hbN hw0 hGge hGle hRs hRt (Nat.le_of_lt hlt)
    rw [run_copy_rows _ 25 25 3 32 33 N (i * 33) (l.length + 1 - i) (G - i) ⟨h, 0, none⟩ 1 1 1 (cL x).toList Tryz.underlying25 (by kernel_rfl) (by show _ = min _ _; omega) (by rw [Array.length_toList, cL_size]) (fun j v hj => by
     rw [add_at, Nat.zero_add, cell_of_row _ h _ _ 32 _ hw2]; rwa [Array.getElem?_toList] at hj) (fun j hj => by
     rw [Array.length_toList, cL_size] at hj
     rw [cell_of_row _ N _ ROW 32 _ hw0, Array.getElem?_eq_getElem (in0 hlt hGge hmul.out hRs hj)]
     rfl) (fun j _ => blk_frozen hw0 _) (cL_one x)]
    obtain ⟨W2, hW2⟩ : ∃ W2, W1.setCells N (i * 33) (cL x).toList = W2 := ⟨_, rfl⟩
    rw [hW2] at hc1 hR ⊢
    have hg2 : W2.heap[g]? = some (.cells cur 32 (0, 0)) := by rw [← hW2]; exact (setCells_far _ _ g (Nat.ne_of_lt hgN)).trans hw1
    have hb2 : Below base w0 W2 := by rw [← hW2]; exact below_setCells _ _ hbw hbN
    have HS1 := Aside0.mk (show cur1.size = G * 33 by rw [hs1, hRs])
    clear hs1 hRs hRt hGle
    try simp only [Result.andThen]
    rw [Oper.upon_value]
    go_wp2
    obtain ⟨k, hk⟩ : ∃ k, i + 1 = k := ⟨_, rfl⟩
    rw [hk] at hR
    have hw1 : wrap64 ((i : Int) + 1) = (k : Int) := w64k hk hlt hl
    have c8 : ((k : Int) ≤ (l.length : Int) + 1) = True := le8 hk hlt
    have c9 : (G = k) = False := ne9 hk hlt hGge
    have c11 : (l.length = i) = False := ne11 hlt
    refine start_ (n := 9) (S := fun w' => w'.heap = W2.heap) (ds := [8]) #[false, false, false, false, false, false, false, false, false] (by kernel_rfl) rfl rfl rfl (fun hHeld => ?_)
    refine pure_ (i := 0) (N := some 46) (v := ?_) (a' := ?_) #[true, false, false, false, false, false, false, false, false] rfl rfl (by kernel_rfl) (fun _ _ _ h => h) (Or.inl ⟨by rfl, ?_⟩) ?_ ?_
    rotate_left
    ·intro w'
     go_simp
     with_reducible rfl
    rotate_left
    ·simp only [Act.put, lZa, lZb, lZc, i64_w, i32_w]
     rfl
    refine pure_ (i := 1) (N := some 47) (v := ?_) (a' := ?_) #[true, true, false, false, false, false, false, false, false] rfl rfl (by kernel_rfl) (fun _ _ _ h => h) (Or.inl ⟨by rfl, ?_⟩) ?_ ?_
    rotate_left
    ·intro w'
     go_simp
     with_reducible rfl
    rotate_left
    ·simp only [Act.put, lZa, lZb, lZc, i64_w, i32_w]
     rfl
    refine pure_ (i := 2) (N := some 48) (v := ?_) (a' := ?_) #[true, true, true, false, false, false, false, false, false] rfl rfl (by kernel_rfl) (fun _ _ _ h => h) (Or.inl ⟨by rfl, ?_⟩) ?_ ?_
    rotate_left
    ·intro w'
     go_simp
     with_reducible rfl
    rotate_left
    ·simp only [Act.put, lZa, lZb, lZc, i64_w, i32_w]
     rfl
    refine pure_ (i := 3) (N := some 49) (v := ?_) (a' := ?_) #[true, true, true, true, false, false, false, false, false] rfl rfl (by kernel_rfl) (fun _ _ _ h => h) (Or.inl ⟨by rfl, ?_⟩) ?_ ?_
    rotate_left
    ·intro w'
     go_simp
     rw [i64_w, hw1]
     try with_reducible rfl
    rotate_left
    ·simp only [Act.put, lZa, lZb, lZc, i64_w, i32_w]
     rfl
    refine pure_ (i := 4) (N := some 50) (v := ?_) (a' := ?_) #[true, true, true, true, true, false, false, false, false] rfl rfl (by kernel_rfl) (fun _ _ _ h => h) (Or.inl ⟨by rfl, ?_⟩) ?_ ?_
    rotate_left
    ·intro w'
     go_simp
     with_reducible rfl
    rotate_left
    ·simp only [Act.put, lZa, lZb, lZc, i64_w, i32_w]
     rfl
    refine pure_ (i := 5) (N := some 51) (v := ?_) (a' := ?_) #[true, true, true, true, true, true, false, false, false] rfl rfl (by kernel_rfl) (fun _ _ _ h => h) (Or.inl ⟨by rfl, ?_⟩) ?_ ?_
    rotate_left
    ·intro w'
     go_simp
     with_reducible rfl
    rotate_left
    ·simp only [Act.put, lZa, lZb, lZc, i64_w, i32_w]
     rfl
    refine pure_ (i := 6) (N := some 52) (v := ?_) (a' := ?_) #[true, true, true, true, true, true, true, false, false] rfl rfl (by kernel_rfl) (fun _ _ _ h => h) (Or.inl ⟨by rfl, ?_⟩) ?_ ?_
    rotate_left
    ·intro w'
     go_simp
     with_reducible rfl
    rotate_left
    ·simp only [Act.put, lZa, lZb, lZc, i64_w, i32_w]
     rfl
    refine pure_ (i := 7) (N := some 53) (v := ?_) (a' := ?_) #[true, true, true, true, true, true, true, true, false] rfl rfl (by kernel_rfl) (fun _ _ _ h => h) (Or.inl ⟨by rfl, ?_⟩) ?_ ?_
    rotate_left
    ·intro w'
     go_simp
     with_reducible rfl
    rotate_left
    ·simp only [Act.put, lZa, lZb, lZc, i64_w, i32_w]
     rfl
    refine last_ (i := 8) (N := some 54) #[true, true, true, true, true, true, true, true, true] rfl rfl (by kernel_rfl) (by decide) (fun K hK => ?_)
    refine value_ (by rfl) rfl (exec_copy rfl rfl rfl (run_copy_rows _ 25 25 _ 32 33 N (k * 33) (l.length + 1 - k) (G - k) ⟨g, i * 33, none⟩ (l.length - i) (l.length - i) (l.length - i) (flL (l.drop i)) Tryz.underlying25 (by kernel_rfl) (mnk hk hlt) (by rw [flL_len, List.length_drop]) ?c1 ?c2 ?c3 (flL_cell _))) ?_
    case c1 =>
     intro j v hj
     rw [add_at, cell_of_row W2.drew g _ cur 32 _ hg2]
     rw [← flL_drop l i (Nat.le_of_lt hlt), List.getElem?_drop, ← ht, List.getElem?_take] at hj
     split at hj
     ·rwa [Array.getElem?_toList] at hj
     ·cases hj
    case c2 =>
     intro j hj
     rw [flL_len, List.length_drop] at hj
     rw [cell_of_row W2.drew N _ cur1 32 _ hc1, Array.getElem?_eq_getElem (ink hk hlt hGge hmul.out HS1.out hj)]
     rfl
    case c3 => exact fun j _ => blk_frozen (w := W2.drew) hc1 _
    refine hK.out _ _ ?_
    clear hK K
    refine norm_ (a' := ?_) ?_ ?_
    rotate_left
    ·show Act.put _ (some 54) _ = _
     simp only [Act.put, lZa, lZb, lZc, i64_w, i32_w]
     rfl
    refine done_ (by kernel_rfl) ?_
    go_wp2
    go_ret
    refine ⟨.slice (some ⟨N, 0, none⟩) (l.length + 1) G, rfl, ?_, below_setCells _ _ hb2.drew hbN⟩
    rw [← drew_cells]
    exact Kd.R_move hR (fun _ _ => rfl)
   ·have c7 : ((cap : Int) < (l.length : Int) + 1) = False := eq_false (by omega)
    have hov : ∀ lb cb W, W.heap[h]? = some (.cells (cL x) 32 (0, 0)) → (∃ cs, W.heap[g]? = some (.cells cs 32 (0, 0)) ∧ cs.size ≠ 0) → (callFunc 70 #[.slice (some ⟨h, 0, none⟩) 1 1, .slice (some ⟨g, (i + 1) * 33, none⟩) lb cb]).run Tryz.prog W = .ok (.value (.bool false)) W := fun lb cb W h1 h2 => by
     obtain ⟨cs, h2, h3⟩ := h2
     rw [run_callFunc_extern Tryz.func70 (by kernel_rfl) (by kernel_rfl) (by kernel_rfl) (e := Extern.SlicesOverlaps.overlaps #[25, 25] #[4]) (by kernel_rfl),
      Lib.run_overlaps_apart W 25 4 32 Tryz.underlying25 33 Tryz.sizeOf32 ⟨h, 0, none⟩ ⟨g, (i + 1) * 33, none⟩ 1 1 lb cb hgh 32 32 33 cs.size (by simp [World.shape?, h1, cL_size]) (by simp [World.shape?, h2]) h3 (blk_frozen h1 _) (blk_frozen h1 _)]
     rfl
    go_enter Tryz.func44, Tryz.ntmps44
    have hcs0 : cur.size ≠ 0 := by omega
    go_wp2
    rw [hov _ _ w HX.out.2.1 ⟨cur, HX.out.2.2.2.1, hcs0⟩]
    try simp only [Result.andThen]
    rw [Oper.upon_value]
    go_wp2
    obtain ⟨k, hk⟩ : ∃ k, i + 1 = k := ⟨_, rfl⟩
    have hw1 : wrap64 ((i : Int) + 1) = (k : Int) := by unfold wrap64; omega
    have c8 : ((k : Int) ≤ (l.length : Int) + 1) = True := eq_true (by omega)
    have c9 : (cap = k) = False := eq_false (by omega)
    have c10 : ((i : Int) ≤ (l.length : Int) + 1) = True := eq_true (by omega)
    have c11 : (cap = i) = False := eq_false (by omega)
    refine start_ (n := 9) (S := fun w' => w'.heap = w.heap) (ds := [8]) #[false, false, false, false, false, false, false, false, false] (by kernel_rfl) rfl rfl rfl (fun hHeld => ?_)
    refine pure_ (i := 0) (N := some 69) (v := ?_) (a' := ?_) #[true, false, false, false, false, false, false, false, false] rfl rfl (by kernel_rfl) (fun _ _ _ h => h) (Or.inl ⟨by rfl, ?_⟩) ?_ ?_
    rotate_left
    ·intro w'
     go_simp
     with_reducible rfl
    rotate_left
    ·simp only [Act.put, lZa, lZb, lZc, i64_w, i32_w]
     rfl
    refine pure_ (i := 1) (N := some 70) (v := ?_) (a' := ?_) #[true, true, false, false, false, false, false, false, false] rfl rfl (by kernel_rfl) (fun _ _ _ h => h) (Or.inl ⟨by rfl, ?_⟩) ?_ ?_
    rotate_left
    ·intro w'
     go_simp
     with_reducible rfl
    rotate_left
    ·simp only [Act.put, lZa, lZb, lZc, i64_w, i32_w]
     rfl
    refine pure_ (i := 2) (N := some 71) (v := ?_) (a' := ?_) #[true, true, true, false, false, false, false, false, false] rfl rfl (by kernel_rfl) (fun _ _ _ h => h) (Or.inl ⟨by rfl, ?_⟩) ?_ ?_
    rotate_left
    ·intro w'
     go_simp
     with_reducible rfl
    rotate_left
    ·simp only [Act.put, lZa, lZb, lZc, i64_w, i32_w]
     rfl
    refine pure_ (i := 3) (N := some 72) (v := ?_) (a' := ?_) #[true, true, true, true, false, false, false, false, false] rfl rfl (by kernel_rfl) (fun _ _ _ h => h) (Or.inl ⟨by rfl, ?_⟩) ?_ ?_
    rotate_left
    ·intro w'
     go_simp
     rw [i64_w, hw1]
     try with_reducible rfl
    rotate_left
    ·simp only [Act.put, lZa, lZb, lZc, i64_w, i32_w]
     rfl
    refine pure_ (i := 4) (N := some 73) (v := ?_) (a' := ?_) #[true, true, true, true, true, false, false, false, false] rfl rfl (by kernel_rfl) (fun _ _ _ h => h) (Or.inl ⟨by rfl, ?_⟩) ?_ ?_
    rotate_left
    ·intro w'
     go_simp
     with_reducible rfl
    rotate_left
    ·simp only [Act.put, lZa, lZb, lZc, i64_w, i32_w]
     rfl
    refine pure_ (i := 5) (N := some 74) (v := ?_) (a' := ?_) #[true, true, true, true, true, true, false, false, false] rfl rfl (by kernel_rfl) (fun _ _ _ h => h) (Or.inl ⟨by rfl, ?_⟩) ?_ ?_
    rotate_left
    ·intro w'
     go_simp
     with_reducible rfl
    rotate_left
    ·simp only [Act.put, lZa, lZb, lZc, i64_w, i32_w]
     rfl
    refine pure_ (i := 6) (N := some 75) (v := ?_) (a' := ?_) #[true, true, true, true, true, true, true, false, false] rfl rfl (by kernel_rfl) (fun _ _ _ h => h) (Or.inl ⟨by rfl, ?_⟩) ?_ ?_
    rotate_left
    ·intro w'
     go_simp
     with_reducible rfl
    rotate_left
    ·simp only [Act.put, lZa, lZb, lZc, i64_w, i32_w]
     rfl
    refine pure_ (i := 7) (N := some 76) (v := ?_) (a' := ?_) #[true, true, true, true, true, true, true, true, false] rfl rfl (by kernel_rfl) (fun _ _ _ h => h) (Or.inl ⟨by rfl, ?_⟩) ?_ ?_
    rotate_left
    ·intro w'
     go_simp
     with_reducible rfl
    rotate_left
    ·simp only [Act.put, lZa, lZb, lZc, i64_w, i32_w]
     rfl
    refine last_ (i := 8) (N := some 77) #[true, true, true, true, true, true, true, true, true] rfl rfl (by kernel_rfl) (by decide) (fun K hK => ?_)
    refine value_ (by rfl) rfl (exec_copy rfl rfl rfl (run_copy_rows _ 25 25 _ 32 33 g (k * 33) (l.length + 1 - k) (cap - k) ⟨g, i * 33, none⟩ (l.length + 1 - i) (cap - i) (l.length - i) (flL (l.drop i)) Tryz.underlying25 (by kernel_rfl) (by show _ = min _ _; omega) (by rw [flL_len, List.length_drop]) ?c1 ?c2 ?c3 (flL_cell _))) ?_
    case c1 =>
     intro j v hj
     rw [add_at, cell_of_row w.drew g _ cur 32 _ HX.out.2.2.2.1]
     rw [← flL_drop l i (by omega), List.getElem?_drop, ← ht, List.getElem?_take] at hj
     split at hj
     ·rwa [Array.getElem?_toList] at hj
     ·cases hj
    case c2 =>
     intro j hj
     rw [flL_len, List.length_drop] at hj
     rw [cell_of_row w.drew g _ cur 32 _ HX.out.2.2.2.1, Array.getElem?_eq_getElem (by omega)]
     rfl
    case c3 => exact fun j _ => blk_frozen (w := w.drew) HX.out.2.2.2.1 _
    refine hK.out _ _ ?_
    clear hK K
    refine norm_ (a' := ?_) ?_ ?_
    rotate_left
    ·show Act.put _ (some 77) _ = _
     simp only [Act.put, lZa, lZb, lZc, i64_w, i32_w]
     rfl
    refine done_ (by kernel_rfl) ?_
    obtain ⟨cur1, hc1, hs1, hR⟩ := shift_R (W := w.drew) (x := x) hbg HX.out.2.2.2.1 hroom hm hs ht (Nat.le_of_lt hlt)
    rw [hk] at hc1 hR
    have hx1 : (w.drew.setCells g (k * 33) (flL (l.drop i))).heap[h]? = some (.cells (cL x) 32 (0, 0)) := (setCells_far _ _ h hgh).trans HX.out.2.1
    have hb1 : Below base w0 (w.drew.setCells g (k * 33) (flL (l.drop i))) := below_setCells _ _ HX.out.2.2.1.drew hbg
    go_wp2
    rw [run_copy_rows _ 25 25 3 32 33 g (i * 33) (l.length + 1 - i) (cap - i) ⟨h, 0, none⟩ 1 1 1 (cL x).toList Tryz.underlying25 (by kernel_rfl) (by show _ = min _ _; omega) (by rw [Array.length_toList, cL_size]) (fun j v hj => by
     rw [add_at, Nat.zero_add, cell_of_row _ h _ _ 32 _ hx1]; rwa [Array.getElem?_toList] at hj) (fun j hj => by
     rw [Array.length_toList, cL_size] at hj
     rw [cell_of_row _ g _ cur1 32 _ hc1, Array.getElem?_eq_getElem (by omega)]
     rfl) (fun j _ => blk_frozen hc1 _) (cL_one x)]
    simp only [Result.andThen]
    rw [Oper.upon_value]
    go_wp2
    go_ret
    exact ⟨_, rfl, hR, below_setCells _ _ hb1 hbg⟩
end Go.Proofs.YtanabbjakacgbaaGreatDoor.Sp
namespace Go.Proofs.YtanabbjakacgbaaGreatDoor.Sp
open Go.RowKit Go.Proofs.YtanabbjakacgbaaGreatDoorW.PrintWords Go.Proofs.YtanabbjakacgbaaGreatDoorW.PrintLast Go.Proofs.YtanabbjakacgbaaGreatDoorW.PrintMore Go.Proofs.YtanabbjakacgbaaGreatDoor.PM
set_option linter.unusedVariables false
set_option linter.unusedSimpArgs false
set_option maxRecDepth 100000
set_option maxHeartbeats 4000000 in
theorem search_calls (l : List Lf) (k : ByteArray) (A : Option Addr) (c : Nat) (w : World) (hr : kL.C w A l.length l) (hl : l.length ≤ 100000) (hs : ∀ t u, t ≤ u → u < l.length → (blt (l.getD u zL).k k = true → blt (l.getD t zL).k k = true) ∧ (blt (l.getD t zL).k k = false → blt (l.getD u zL).k k = false)) :
  Calls Tryz.prog 67 #[.slice A l.length c, .string k, .func (.func 68) #[] #[]] w fun e w' => ∃ i : Nat, Place l k i ∧ e = .returned (.tuple #[.int .i64 (i : Int), .bool (decide (i < l.length ∧ (l.getD i zL).k = k))]) ∧ Below w.heap.size w w' := by
 have HS := Aside0.mk (And.intro hr hs)
 clear hr hs
 go_enter Tryz.func67, Tryz.ntmps67
 go_wp2
 go_loopw [9, 10, 11] (fun i j h wr => ∃ a b : Nat, i = .int .i64 (a : Int) ∧ j = .int .i64 (b : Int) ∧ a ≤ b ∧ b ≤ l.length ∧ Aside0 ((∀ t, t < a → blt (l.getD t zL).k k = true) ∧ (∀ t, b ≤ t → t < l.length → blt (l.getD t zL).k k = false) ∧ Below w.heap.size w wr)) (fun i j _ _ => (intOf j - intOf i).toNat)
 case atStart => exact ⟨0, l.length, by simp, by simp, by omega, by omega, Aside0.mk ⟨fun t h => by omega, fun t h1 h2 => by omega, Below.refl _ _⟩⟩
 case round =>
  obtain ⟨a, b, rfl, rfl, hab, hbl, HR⟩ := hrel
  by_cases c5 : a < b
  ·have c5b : ((a : Int) < (b : Int)) = True := eq_true (by omega)
   have hah : a ≤ (a + b) / 2 ∧ (a + b) / 2 < b := by omega
   obtain ⟨y, hy⟩ : ∃ y, y = l.getD ((a + b) / 2) zL := ⟨_, rfl⟩
   obtain ⟨ad, eA, hat⟩ := at_flat HS.out.1 zL (((a + b) / 2 : Nat) : Int) (by omega) (by omega)
   subst eA
   rw [Int.toNat_natCast, ← hy] at hat
   have hl1 := le_L hat HR.out.2.2
   have HY := Aside0.mk hy
   clear hy hat
   have HAH := Aside0.mk hah
   by_cases hlt : blt y.k k = true
   ·have hc5 : (cmpB y.k k < 0) = True := eq_true ((cmpB_lt _ _).2 hlt)
    have HLT := Aside0.mk hlt
    clear hlt
    go_wp2_with (first
     | ((with_reducible refine gate_dst (N := 28) rfl ?_); (refine wpList_loadv rfl 32 _ rfl _ rfl _ (hl1 0) ?_))
     | (go_at_call 68; (with_reducible refine (findC_calls y k wr).mono ?_); rintro e w1 ⟨rfl, hb1⟩; have H1 := Aside0.mk (below_tr HR.out.2.2 hb1 HR.out.2.2.size); clear hb1))
    exact ⟨⟨(a + b) / 2 + 1, b, by simp, rfl, by omega, by omega, Aside0.mk ⟨fun t ht => (HS.out.2 t ((a + b) / 2) (by omega) (by omega)).1 (by rw [← HY.out]; exact HLT.out), HR.out.2.1, H1.out⟩⟩, by simp [intOf]; omega⟩
   ·have hc5 : (cmpB y.k k < 0) = False := eq_false (fun h => hlt ((cmpB_lt _ _).1 h))
    have HLT := Aside0.mk (show blt y.k k = false by simpa using hlt)
    clear hlt
    go_wp2_with (first
     | ((with_reducible refine gate_dst (N := 28) rfl ?_); (refine wpList_loadv rfl 32 _ rfl _ rfl _ (hl1 0) ?_))
     | (go_at_call 68; (with_reducible refine (findC_calls y k wr).mono ?_); rintro e w1 ⟨rfl, hb1⟩; have H1 := Aside0.mk (below_tr HR.out.2.2 hb1 HR.out.2.2.size); clear hb1))
    exact ⟨⟨a, (a + b) / 2, rfl, by simp, by omega, by omega, Aside0.mk ⟨HR.out.1, fun t h1 h2 => (HS.out.2 ((a + b) / 2) t (by omega) h2).2 (by rw [← HY.out]; exact HLT.out), H1.out⟩⟩, by simp [intOf]; omega⟩
  ·obtain rfl : a = b := by omega
   have c5b : ((a : Int) < (a : Int)) = False := eq_false (by omega)
   have hpl : Place l k a := ⟨hbl, HR.out.1, HR.out.2.1⟩
   have HPL := Aside0.mk hpl
   rcases Nat.lt_or_ge a l.length with ha | ha
   ·have c5c : ((a : Int) < (l.length : Int)) = True := eq_true (by omega)
    have c5d : ((0 : Int) ≤ (a : Int)) = True := eq_true (by omega)
    obtain ⟨y, hy⟩ : ∃ y, y = l.getD a zL := ⟨_, rfl⟩
    obtain ⟨ad, eA, hat⟩ := at_flat HS.out.1 zL (a : Int) (by omega) (by omega)
    subst eA
    rw [Int.toNat_natCast, ← hy] at hat
    have hl1 := le_L hat HR.out.2.2
    obtain ⟨q, hq⟩ : ∃ q : Bool, (cmpB y.k k == 0) = q := ⟨_, rfl⟩
    have hqd : decide (a < l.length ∧ (l.getD a zL).k = k) = q := by
     rw [← hq, ← hy]
     by_cases e : y.k = k
     ·rw [decide_eq_true ⟨ha, e⟩, (cmpB_eq _ _).2 e]; rfl
     ·rw [decide_eq_false (fun h => e h.2)]
      have : ¬ cmpB y.k k = 0 := fun h => e ((cmpB_eq _ _).1 h)
      simp [this]
    have HQ := Aside0.mk hqd
    have HQ1 := Aside0.mk hq
    clear hy hat hq hqd hpl
    go_wp2_with (first
     | ((with_reducible refine gate_dst (N := 44) rfl ?_); refine wpList_wanted (by rfl) ?_; (refine wpList_loadv rfl 32 _ rfl _ rfl _ (hl1 0) ?_))
     | (go_at_call 68; (with_reducible refine (findC_calls y k wr).mono ?_); rintro e w1 ⟨rfl, hb1⟩; have H1 := Aside0.mk (below_tr HR.out.2.2 hb1 HR.out.2.2.size); clear hb1))
    refine bodyPost_ret (results_tmp2 rfl _ _ _) rfl ?_
    exact ⟨a, HPL.out, (by rw [HQ.out, ← HQ1.out]; first | done | rfl | simp), H1.out⟩
   ·obtain rfl : a = l.length := by omega
    have HQ := Aside0.mk (show decide (l.length < l.length ∧ (l.getD l.length zL).k = k) = false from decide_eq_false (fun h => absurd h.1 (Nat.lt_irrefl _)))
    have H1 := Aside0.mk HR.out.2.2
    clear hpl
    go_wp2
    refine bodyPost_ret (results_tmp2 rfl _ _ _) rfl ?_
    exact ⟨l.length, HPL.out, (by rw [HQ.out]; first | done | rfl), H1.out⟩
theorem find_calls (l : List Lf) (k : ByteArray) (A : Option Addr) (c : Nat) (w : World) (hr : kL.C w A l.length l) (hl : l.length ≤ 100000) (hs : ∀ t u, t ≤ u → u < l.length → (blt (l.getD u zL).k k = true → blt (l.getD t zL).k k = true) ∧ (blt (l.getD t zL).k k = false → blt (l.getD u zL).k k = false)) :
  Calls Tryz.prog 43 #[.slice A l.length c, .string k] w fun e w' => ∃ (i : Nat) (q : Bool), Place l k i ∧ decide (i < l.length ∧ (l.getD i zL).k = k) = q ∧ e = .returned (.tuple #[.int .i64 (i : Int), .bool q]) ∧ Below w.heap.size w w' := by
 have HS := Aside0.mk (And.intro hr hs)
 clear hr hs
 go_enter Tryz.func43, Tryz.ntmps43
 go_wp2_with (go_at_call 67; (with_reducible refine (search_calls l k A c w HS.out.1 hl HS.out.2).mono ?_); rintro e w1 ⟨i, hi, rfl, hb1⟩; (obtain ⟨q, hq⟩ : ∃ q, decide (i < l.length ∧ (l.getD i zL).k = k) = q := ⟨_, rfl⟩); rw [hq]; have H1 := Aside0.mk (⟨hi, hb1, hq⟩ : _ ∧ _ ∧ _); clear hi hb1 hq)
 refine bodyPost_ret (results_tmp2 rfl _ _ _) rfl ?_
 exact ⟨i, q, H1.out.1, H1.out.2.2, rfl, H1.out.2.1⟩
end Go.Proofs.YtanabbjakacgbaaGreatDoor.Sp
namespace Go.Proofs.YtanabbjakacgbaaGreatDoor.Sp
open Go.RowKit
set_option linter.unusedVariables false
set_option linter.unusedSimpArgs false
theorem mem_getD {l : List Lf} {x : Lf} (h : x ∈ l) : ∃ t, t < l.length ∧ l.getD t zL = x := by
 obtain ⟨t, ht, rfl⟩ := List.getElem_of_mem h
 exact ⟨t, ht, by rw [List.getD_eq_getElem?_getD, List.getElem?_eq_getElem ht]; rfl⟩
theorem mem_take_getD {l : List Lf} {n : Nat} {x : Lf} (h : x ∈ l.take n) : ∃ t, t < n ∧ t < l.length ∧ l.getD t zL = x := by
 obtain ⟨t, ht, hx⟩ := mem_getD h
 rw [List.length_take] at ht
 refine ⟨t, by omega, by omega, ?_⟩
 rw [List.getD_eq_getElem?_getD, List.getElem?_take, if_pos (by omega), ← List.getD_eq_getElem?_getD] at hx
 exact hx
theorem mem_drop_getD {l : List Lf} {n : Nat} {x : Lf} (h : x ∈ l.drop n) : ∃ t, n ≤ t ∧ t < l.length ∧ l.getD t zL = x := by
 obtain ⟨t, ht, hx⟩ := mem_getD h
 rw [List.length_drop] at ht
 refine ⟨n + t, by omega, by omega, ?_⟩
 rw [List.getD_eq_getElem?_getD, List.getElem?_drop, ← List.getD_eq_getElem?_getD] at hx
 exact hx
section
variable {l : List Lf} {k : ByteArray} {x : Lf} {i : Nat}
theorem Place.filter_lt (h : Place l k i) : (l.filter fun y => blt y.k k) = l.take i := by
 rw [← List.take_append_drop i l, List.filter_append]
 have f1 : ((l.take i).filter fun y => blt y.k k) = l.take i := List.filter_eq_self.2 fun z hz => by
  obtain ⟨t, h1, _, rfl⟩ := mem_take_getD hz; exact h.lo t h1
 have f2 : ((l.drop i).filter fun y => blt y.k k) = [] := List.filter_eq_nil_iff.2 fun z hz => by
  obtain ⟨t, h1, h2, rfl⟩ := mem_drop_getD hz; rw [h.hi t h1 h2]; simp
 rw [f1, f2, List.append_nil, List.take_append_drop]
theorem srt_lt (hs : Srt l) {a b : Nat} (hab : a < b) (hb : b < l.length) : blt (l.getD a zL).k (l.getD b zL).k = true := by
 have := List.pairwise_iff_getElem.1 hs a b (by omega) hb hab
 rwa [List.getD_eq_getElem?_getD, List.getElem?_eq_getElem (by omega), List.getD_eq_getElem?_getD, List.getElem?_eq_getElem hb]
theorem Place.none (h : Place l k i) (hs : Srt l) (hne : ¬ (i < l.length ∧ (l.getD i zL).k = k)) : ∀ t, t < l.length → ¬ (l.getD t zL).k = k := fun t ht e => by
 rcases Nat.lt_or_ge t i with h1 | h1
 ·have := h.lo t h1; rw [e, blt_irr] at this; cases this
 ·rcases Nat.lt_or_ge i t with h2 | h2
  ·have h3 := srt_lt hs h2 ht
   rw [e, h.hi i (Nat.le_refl _) (by omega)] at h3; cases h3
  ·obtain rfl : t = i := by omega
   exact hne ⟨ht, e⟩
theorem Place.gt (h : Place l k i) (hs : Srt l) {j : Nat} (hj : i ≤ j) (hne : ∀ t, j ≤ t → t < l.length → ¬ (l.getD t zL).k = k) (hlo : ∀ t, t < j → t < l.length → blt k (l.getD t zL).k = false) : (l.filter fun y => blt k y.k) = l.drop j := by
 rw [← List.take_append_drop j l, List.filter_append]
 have f1 : ((l.take j).filter fun y => blt k y.k) = [] := List.filter_eq_nil_iff.2 fun z hz => by
  obtain ⟨t, h1, h2, rfl⟩ := mem_take_getD hz; rw [hlo t h1 h2]; simp
 have f2 : ((l.drop j).filter fun y => blt k y.k) = l.drop j := List.filter_eq_self.2 fun z hz => by
  obtain ⟨t, h1, h2, rfl⟩ := mem_drop_getD hz
  exact blt_tot (h.hi t (by omega) h2) (hne t h1 h2)
 rw [f1, f2, List.nil_append, List.take_append_drop]
theorem Place.put_new (h : Place l x.k i) (hs : Srt l) (hne : ¬ (i < l.length ∧ (l.getD i zL).k = x.k)) : putOf l x = l.take i ++ x :: l.drop i := by
 rw [putOf_eq x hs, h.filter_lt, h.gt hs (Nat.le_refl _) (fun t _ ht => h.none hs hne t ht) (fun t ht _ => blt_asym (h.lo t ht))]
theorem Place.drop_new (h : Place l k i) (hs : Srt l) (hne : ¬ (i < l.length ∧ (l.getD i zL).k = k)) : dropOf l k = l := by
 rw [dropOf]
 exact List.filter_eq_self.2 fun z hz => by
  obtain ⟨t, ht, rfl⟩ := mem_getD hz
  exact decide_eq_true (h.none hs hne t ht)
theorem Place.far (h : Place l k i) (hs : Srt l) (he : i < l.length ∧ (l.getD i zL).k = k) : ∀ t, i + 1 ≤ t → t < l.length → ¬ (l.getD t zL).k = k := fun t h1 h2 e => by
 have h3 := srt_lt hs (show i < t by omega) h2
 rw [e, he.2, blt_irr] at h3; cases h3
theorem Place.put_old (h : Place l x.k i) (hs : Srt l) (he : i < l.length ∧ (l.getD i zL).k = x.k) : putOf l x = l.set i x := by
 rw [putOf_eq x hs, h.filter_lt, h.gt hs (j := i + 1) (by omega) (h.far hs he) (fun t ht h2 => by
  rcases Nat.lt_or_ge t i with h1 | h1
  ·exact blt_asym (h.lo t h1)
  ·obtain rfl : t = i := by omega
   rw [he.2, blt_irr])]
 exact (List.set_eq_take_append_cons_drop ▸ (if_pos he.1).symm)
theorem Place.drop_old (h : Place l k i) (hs : Srt l) (he : i < l.length ∧ (l.getD i zL).k = k) : dropOf l k = l.take i ++ l.drop (i + 1) := by
 rw [dropOf, ← List.take_append_drop i l, List.filter_append]
 have f1 : ((l.take i).filter fun y => decide (¬ y.k = k)) = l.take i := List.filter_eq_self.2 fun z hz => by
  obtain ⟨t, h1, _, rfl⟩ := mem_take_getD hz; exact decide_eq_true (blt_ne (h.lo t h1))
 have e1 : l.drop i = l.getD i zL :: l.drop (i + 1) := by
  rw [List.getD_eq_getElem?_getD, List.getElem?_eq_getElem he.1]
  exact List.drop_eq_getElem_cons he.1
 have f2 : ((l.drop i).filter fun y => decide (¬ y.k = k)) = l.drop (i + 1) := by
  rw [e1, List.filter_cons_of_neg (by rw [decide_eq_false (fun h => h he.2)]; decide)]
  exact List.filter_eq_self.2 fun z hz => by
   obtain ⟨t, h1, h2, rfl⟩ := mem_drop_getD hz; exact decide_eq_true (h.far hs he t h1 h2)
 rw [f1, f2, List.take_append_drop]
end
section
variable {l : List Lf} {x y : Lf} {k : ByteArray}
theorem drop_drop (l : List Lf) (k : ByteArray) : dropOf (dropOf l k) k = dropOf l k := by
 rw [dropOf, dropOf, List.filter_filter]
 simp
end
end Go.Proofs.YtanabbjakacgbaaGreatDoor.Sp
namespace Go.Proofs.YtanabbjakacgbaaGreatDoor.Sp
open Go.RowKit Go.Proofs.YtanabbjakacgbaaGreatDoorW.PrintWords Go.Proofs.YtanabbjakacgbaaGreatDoorW.PrintLast Go.Proofs.YtanabbjakacgbaaGreatDoorW.PrintMore Go.Proofs.YtanabbjakacgbaaGreatDoor.PM
set_option linter.unusedVariables false
set_option linter.unusedSimpArgs false
set_option maxRecDepth 100000
theorem C_none {w : World} {l : List Lf} (hr : kL.C w none l.length l) : l = [] := by
 rcases Nat.eq_zero_or_pos l.length with h | h
 ·exact List.eq_nil_of_length_eq_zero h
 ·obtain ⟨_, e, _⟩ := hr.2.2 h; cases e
set_option maxHeartbeats 4000000 in
theorem clone_calls (l : List Lf) (A : Option Addr) (c : Nat) (w : World) (hr : kL.C w A l.length l) (hl : l.length ≤ 100000) :
  Calls Tryz.prog 42 #[.slice A l.length c] w fun e w' => ∃ v, e = .returned v ∧ kL.R 32 w' w.heap.size (fun _ => True) v l ∧ Below w.heap.size w w' := by
 have HS := Aside0.mk hr
 cases A with
 | none =>
  obtain rfl := C_none hr
  clear hr
  go_enter Tryz.func42, Tryz.ntmps42
  have hnil : ∀ W, (binOp .eql 25 (.slice none 0 c) (.slice none 0 0)).run Tryz.prog W = .ok (.bool true) W := fun W => run_eql_nil_slice W 25 32 none 0 c 0 0 Tryz.underlying25
  go_wp2_with (rw [hnil])
  go_ret
  exact ⟨_, rfl, Kd.R_nil _ _ _ _ _, Below.refl _ _⟩
 | some ad =>
  clear hr
  have hnil : ∀ W, (binOp .eql 25 (.slice (some ad) l.length c) (.slice none 0 0)).run Tryz.prog W = .ok (.bool false) W := fun W => run_eql_nil_slice W 25 32 (some ad) l.length c 0 0 Tryz.underlying25
  go_enter Tryz.func42, Tryz.ntmps42
  go_wp2_with (first
   | (rw [hnil])
   | ((with_reducible refine gate_dst (N := 5) rfl ?_); (refine bs0_L (wa := w) rfl rfl rfl w.heap.size (Below.refl _ _) (Nat.le_refl _) ?_); intro v0 w1 hv0 hb0 hs0; have H0 := Aside0.mk (⟨hv0, hb0, hs0⟩ : _ ∧ _ ∧ _); clear hv0 hb0 hs0)
   | ((with_reducible refine gate_dst (N := 7) rfl ?_); (refine app_Lall (wa := w) rfl (.tmp 5) (.tmp 6) rfl v0 [] l (some ad) c rfl rfl w.heap.size H0.out.1 (Kd.C_below HS.out H0.out.2.1) H0.out.2.1 H0.out.2.2 (by simp; omega) ?_); intro v1 w2 hv1 hb1 hg1; have H1 := Aside0.mk (And.intro hv1 hb1); clear hv1 hb1 hg1))
  go_ret
  exact ⟨v1, rfl, H1.out.1, H1.out.2⟩
theorem srt_mono {l : List Lf} (hs : Srt l) (k : ByteArray) : ∀ t u, t ≤ u → u < l.length → (blt (l.getD u zL).k k = true → blt (l.getD t zL).k k = true) ∧ (blt (l.getD t zL).k k = false → blt (l.getD u zL).k k = false) := fun t u htu hu => by
 rcases Nat.lt_or_ge t u with h | h
 ·have h1 := srt_lt hs h hu
  refine ⟨fun h2 => blt_trans h1 h2, fun h2 => ?_⟩
  by_cases h3 : blt (l.getD u zL).k k = true
  ·rw [blt_trans h1 h3] at h2; cases h2
  ·simpa using h3
 ·obtain rfl : t = u := by omega
  exact ⟨id, id⟩
set_option maxHeartbeats 4000000 in
theorem putm_calls (l : List Lf) (x : Lf) (A : Option Addr) (c : Nat) (w : World) (hr : kL.C w A l.length l) (hl : l.length ≤ 10000) (hs : Srt l) :
  Calls Tryz.prog 19 #[.slice A l.length c, .agg (cL x)] w fun e w' => ∃ v, e = .returned v ∧ kL.R 32 w' w.heap.size (fun _ => True) v (putOf l x) ∧ Below w.heap.size w w' := by
 obtain ⟨g, hg⟩ : ∃ g, g = w.heap.size := ⟨_, rfl⟩
 obtain ⟨wb, hwb⟩ : ∃ wb, w.alloc (.cells (cL x) 32) = wb := ⟨_, rfl⟩
 have hb : Below w.heap.size w wb := by rw [← hwb]; exact below_alloc (Below.refl _ _) _
 have h0 : wb.heap[g]? = some (.cells (cL x) 32 (0, 0)) := by rw [← hwb]; exact h_new hg
 have HB := Aside0.mk (⟨hb, h0, Kd.C_below hr hb⟩ : _ ∧ _ ∧ _)
 have HWB := Aside0.mk hwb
 have HG := Aside0.mk hg
 have HSO := Aside0.mk hs
 clear hb h0 hwb hr hs hg
 go_enter Tryz.func19, Tryz.ntmps19
 go_wp2_with (first
  | (go_at_call 42; rw [HWB.out, ← HG.out]; (with_reducible refine (clone_calls l A c wb HB.out.2.2 (by omega)).mono ?_); rintro e w1 ⟨v1, rfl, hv1, hb1⟩; obtain ⟨A1, c1, rfl, hc1, hr1⟩ := Kd.R_reads hv1; have H1 := Aside0.mk (⟨Kd.R_lower hv1 HB.out.1.size, hr1, below_tr HB.out.1 hb1 HB.out.1.size, at_next HB.out.2.1 hb1⟩ : _ ∧ _ ∧ _ ∧ _); have hx1 := cell_L0 H1.out.2.2.2; clear hv1 hb1 hr1)
  | (go_at_call 43; (with_reducible refine (find_calls l x.k A1 c1 w1 H1.out.2.1 (by omega) (srt_mono HSO.out x.k)).mono ?_); rintro e w2 ⟨i, q, hp, hq, rfl, hb2⟩; have H2 := Aside0.mk (⟨hp, hq, Kd.R_below H1.out.1 hb2, below_tr H1.out.2.2.1 hb2 H1.out.2.2.1.size, at_next H1.out.2.2.2 hb2⟩ : _ ∧ _ ∧ _ ∧ _ ∧ _); clear hp hq hb2 hx1; refine pause_ ?_))
 have hxl := ld_L H2.out.2.2.2.2 0
 have hil := H2.out.1.le
 have hbs : w.heap.size ≤ w2.heap.size := H2.out.2.2.2.1.size
 cases q with
 | true =>
  obtain ⟨he1, he2⟩ := of_decide_eq_true H2.out.2.1
  have hput : putOf l x = l.set i x := H2.out.1.put_old HSO.out ⟨he1, he2⟩
  obtain ⟨g1, e1⟩ : ∃ g1, A1 = some ⟨g1, 0, none⟩ := by
   rcases R_cells H2.out.2.2.1 with ⟨h, h2⟩ | ⟨g1, cap, cur, h, _⟩
   ·rw [h2] at he1; exact absurd he1 (Nat.not_lt_zero _)
   ·injection h with h; exact ⟨g1, h⟩
  subst e1
  have c5 : ((i : Int) < (l.length : Int)) = True := eq_true (by omega)
  have HP := Aside0.mk hput
  clear hput he2
  obtain ⟨ad, eA, hat⟩ := at_flat (R_C H2.out.2.2.1).2.2 zL (i : Int) (by omega) (by omega)
  obtain rfl := Option.some.inj eA
  rw [Int.toNat_natCast] at hat
  have hcc : ∀ j u, (cL (l.getD i zL)).toList[j]? = some u → w2.cell? ⟨g1, (i : Int).toNat * kL.sz + j, none⟩ = some u := fun j u hj => by
   have := hat j u hj
   rwa [add_at, add_at, Nat.zero_add] at this
  refine unpause_ ?_
  go_wp2_with (first
   | ((with_reducible refine gate_dst (N := 19) rfl ?_); (refine wpList_loadv rfl 32 _ rfl _ rfl _ hxl ?_))
   | ((with_reducible refine gate_store (t := 32) rfl ?_); (refine Kd.R_store kL (w0 := w) w.heap.size rfl rfl 32 (.tmp 20) (.tmp 19) rfl 32 (g := g1) (n := l.length) (cap := c1) (o' := i * 33) (i : Int) 0 l x (.agg (cL x)) (cL x).toList (cL (l.getD i zL)).toList (fun _ => True) (fun _ => False) rfl (by rw [Int.toNat_natCast]; rfl) rfl rfl (by rw [Array.length_toList, cL_size]; kernel_rfl) (cL_one x) H2.out.2.2.1 (by omega) (by omega) (by rw [Array.length_toList, cL_size]; rfl) hcc (by rw [Array.length_toList, cL_size]; decide) ?hM (fun _ h => h.elim) H2.out.2.2.2.1 ?_); (case hM => (show _ = _); rw [List.take_zero, List.nil_append, List.drop_eq_nil_of_le (by rw [Array.length_toList, Array.length_toList, cL_size, cL_size]; decide), List.append_nil]); intro w3 hr3 hb3 hg3; have H3 := Aside0.mk (And.intro hr3 hb3); clear hr3 hb3 hg3))
  go_ret
  have h3 := H3.out.1
  rw [Int.toNat_natCast] at h3
  exact ⟨_, rfl, by rw [HP.out]; exact h3, H3.out.2⟩
 | false =>
  have hput : putOf l x = l.take i ++ x :: l.drop i := H2.out.1.put_new HSO.out (of_decide_eq_false H2.out.2.1)
  have HP := Aside0.mk hput
  obtain ⟨w3, hw3⟩ : ∃ w3, w2.alloc (.cells (cL x) 32) = w3 := ⟨_, rfl⟩
  obtain ⟨n, hn⟩ : ∃ n, n = w2.heap.size := ⟨_, rfl⟩
  have hb3 : Below w2.heap.size w2 w3 := by rw [← hw3]; exact below_alloc (Below.refl _ _) _
  have hx3 : w3.heap[n]? = some (.cells (cL x) 32 (0, 0)) := by rw [← hw3]; exact h_new hn
  have hne : (Value.slice A1 l.length c1).ownBlock ≠ some n := fun e => by have := Kd.R_lt H2.out.2.2.1 n e; omega
  have H3 := Aside0.mk (⟨Kd.R_below H2.out.2.2.1 hb3, hx3, hne, below_tr H2.out.2.2.2.1 hb3 H2.out.2.2.2.1.size, Nat.le_trans hbs hb3.size⟩ : _ ∧ _ ∧ _ ∧ _ ∧ _)
  have HN := Aside0.mk hn
  have HW3 := Aside0.mk hw3
  clear hput hb3 hx3 hne hn hw3
  refine unpause_ ?_
  go_wp2_with (first
   | ((with_reducible refine gate_dst (N := 24) rfl ?_); (refine wpList_loadv rfl 32 _ rfl _ rfl _ hxl ?_))
   | ((with_reducible refine gate_dst (N := 25) rfl ?_); (refine bs1_L rfl (.tmp 24) rfl x rfl ?_); rw [HW3.out, ← HN.out])
   | (go_at_call 44; (with_reducible refine (insert_calls l x i (.slice A1 l.length c1) n w.heap.size w w3 H3.out.1 H3.out.2.1 H3.out.2.2.1 hil (by omega) H3.out.2.2.2.1 H3.out.2.2.2.2).mono ?_); rintro e w4 ⟨v4, rfl, hr4, hb4⟩; have H4 := Aside0.mk (And.intro hr4 hb4); clear hr4 hb4))
  go_ret
  exact ⟨v4, rfl, by rw [HP.out]; exact H4.out.1, H4.out.2⟩
end Go.Proofs.YtanabbjakacgbaaGreatDoor.Sp

