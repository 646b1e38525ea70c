/- Put together by this session's program out of: Rp Rng3 Rq Rr Rs Rt Gr Ru. -/
import Derived.Below
import Derived.RegionTactic
import Derived.Test.YtanabbjakacgbaaGreatDoorM3
import Derived.Test.YtanabbjakacgbaaGreatDoorM0
namespace Go.Proofs.YtanabbjakacgbaaGreatDoor.Sp
open Go.RowKit Go.Proofs.YtanabbjakacgbaaGreatDoorW.PrintWords Go.Proofs.YtanabbjakacgbaaGreatDoorW.PrintLast Go.Proofs.YtanabbjakacgbaaGreatDoorW.PrintMore Go.Proofs.YtanabbjakacgbaaGreatDoor.PM
set_option linter.unusedVariables false
set_option linter.unusedSimpArgs false
set_option maxRecDepth 100000
theorem at_world {P : Program} {ops : Array Oper} {rest : List Oper} {a : Act} {w w' : World} {Q : Exit → Act → World → Prop} (h : w = w') (H : wpList P ops Q rest a w') : wpList P ops Q rest a w := by rw [h]; exact H
theorem R_setRow {α : Type} {d : Kd α} {e : Nat} {w : World} {base g : Nat} {v : Value} {xs : List α} (h : d.R e w base (fun _ => True) v xs) (hg : g < base) (cs : Array Value) : d.R e (w.setRow g cs) base (fun _ => True) v xs :=
 Kd.R_mono (Kd.R_step (Kd.R_bound h) (fun k hk _ => setRow_other _ _ _ _ (by have := hk.2.1; omega))) (fun _ _ => trivial)
theorem R_setCell {α : Type} {d : Kd α} {e : Nat} {w : World} {base g j : Nat} {v : Value} {xs : List α} (h : d.R e w base (fun _ => True) v xs) (hg : g < base) (u : Value) : d.R e (w.setCell ⟨g, j, none⟩ u) base (fun _ => True) v xs :=
 Kd.R_mono (Kd.R_step (Kd.R_bound h) (fun k hk _ => Below.heap_setCell w ⟨g, j, none⟩ u k (by have := hk.2.1; show k ≠ g; omega))) (fun _ _ => trivial)
theorem R_C {α : Type} {d : Kd α} {e : Nat} {w : World} {base : Nat} {ok : Nat → Prop} {A : Option Addr} {n c : Nat} {xs : List α} (h : d.R e w base ok (.slice A n c) xs) : n = xs.length ∧ xs.length ≤ c ∧ d.C w A xs.length xs := by
 obtain ⟨A', c', e', hc, hC⟩ := Kd.R_reads h
 injection e' with e1 e2 e3
 subst e1 e3
 exact ⟨e2, hc, hC⟩
theorem R_off {α : Type} {d : Kd α} {e : Nat} {w : World} {base : Nat} {A : Option Addr} {n c : Nat} {xs : List α} (h : d.R e w base (fun _ => True) (.slice A n c) xs) {g t : Nat} {cells : Array Value} (hb : w.heap[g]? = some (.cells cells t (0, 0))) (ht : e ≠ t) (ad : Addr) (hA : A = some ad) (hp : 0 < n) : ad.block ≠ g := by
 intro e1
 subst hA
 refine Kd.R_ne h hb ht ?_
 rw [Value.ownBlock, e1]
theorem R_grownT {α β : Type} {d : Kd α} {d' : Kd β} {e e' : Nat} {w w1 : World} {base base' : Nat} {v u : Value} {xs : List α} {ys : List β} {ok' : Nat → Prop} (h : d.R e w base (fun _ => True) v xs) (hu : d'.R e' w base' ok' u ys) (hg : w.grownBy w1 u.ownBlock) (hne : ∀ q, q ∈ e :: d.E → q ≠ e') : d.R e w1 base (fun _ => True) v xs :=
 Kd.R_mono (Kd.R_step (Kd.R_bound h) (fun k hk hlt => hg.block k hlt (fun e1 => by
  obtain ⟨inner, ho⟩ := Kd.R_own hu
  obtain ⟨cells, hc⟩ := own_typed ho k e1.symm
  obtain ⟨_, _, _, q, hq, cells', hc'⟩ := hk
  rw [hc] at hc'
  injection hc' with hc'
  injection hc' with _ hc'
  exact hne q hq hc'.symm))) (fun _ _ => trivial)
section
variable {ops : Array Oper} {rest : List Oper} {o : Oper} {a : Act} {Q : Exit → Act → World → Prop} {w wa W : World}
theorem app_S2 (hg : o.guard = none) (s x : Operand) (ho : o.op = .call { callee := .builtin .append, args := #[s, x], argTypes := #[28, 28] }) (v : Value) (xs : List Sm) (p : Sm) (hs : a.eval s = v) (hx : a.eval x = .slice (some ⟨W.heap.size, 0, none⟩) 1 1) (B : Nat) (HO : kS.R 30 W B (fun _ => True) v xs) (HB : Below B wa W) (hB : B ≤ W.heap.size) (hl : xs.length ≤ 1000000)
  (h : ∀ v1 w1, kS.R 30 w1 B (fun _ => True) v1 (xs ++ [p]) → Below B wa w1 → W.grownBy w1 v.ownBlock → wpList Tryz.prog ops Q rest (a.put o.dst v1) w1) : wpList Tryz.prog ops Q (o :: rest) a (W.alloc (.cells (cS p) 30)) := by
 have h9 := Kd.R_append kS (P := Tryz.prog) (w0 := wa) (W := W) (ops := ops) (rest := rest) (o := o) (a := a) (Q := Q) B hg s x 28 30 (.agg (cS zS)) 32 ho Tryz.underlying28 infoS (cS_size _) (by decide) (by decide) v xs p (cS p).toList (fun _ => True) (fun _ => False) hs hx rfl (fun _ hk => hk.elim) (fun _ _ => trivial) HO HB hB (by omega) (fun v1 w1 h1 h2 h3 _ => h v1 w1 h1 h2 h3)
 rwa [Array.toArray_toList] at h9
end
theorem bs1S_run {o : Oper} {a : Act} (x : Operand) (ho : o.op = .buildSlice 28 1 #[(0, x)]) (p : Sm) (hx : a.eval x = .agg (cS p)) (w : World) : (execOp a.eval o).run Tryz.prog w = .ok (.value (.slice (some ⟨w.heap.size, 0, none⟩) 1 1)) (w.alloc (.cells (cS p) 30)) := by
 obtain ⟨ie, hi, hzz⟩ := Option.map_eq_some_iff.1 infoS
 simp only [Prod.mk.injEq] at hzz
 unfold execOp
 simp only [ho, Sem.run_bind]
 have e : (Array.map (fun x : Nat × Operand => (x.1, a.eval x.2)) #[(0, x)]) = #[(0, .agg (cS p))] := by simp [hx]
 have hf := run_buildSlice (P := Tryz.prog) w 28 30 1 #[(0, .agg (cS p))] (cS p) ie (.agg (cS zS)) Tryz.underlying28 hi hzz.1 (by rw [hzz.2.1]; omega) (by rw [hzz.2.1]; omega) (by rw [hzz.2.1]; exact fill_one 0 (.agg (cS p)) _ _ (by simp [Value.cells, cS_size]) (by simp [Value.cells, cS_size]))
 rw [e, hf]
 rfl
set_option maxHeartbeats 400000 in
theorem Prove4w_calls (l : List Lf) (k : ByteArray) (A : Option Addr) (c : Nat) (w : World) (hr : kL.C w A l.length l) (hc : l.length ≤ c) (hl : SmL l) (hk1 : k.size ≤ 100000) :
  Calls Tryz.prog 7 #[.slice A l.length c, .string k] w fun e w' => ∃ A' c', e = .returned (.agg (cP (.slice A' (proveOf l k).p.length c') (proveOf l k).e (proveOf l k).l)) ∧ kS.R 30 w' 0 (fun _ => True) (.slice A' (proveOf l k).p.length c') (proveOf l k).p ∧ (proveOf l k).p.length ≤ c' ∧ Below w.heap.size w w' := by
 have hu36 := Tryz.underlying34
 obtain ⟨g, hg⟩ : ∃ g, g = w.heap.size := ⟨_, rfl⟩
 obtain ⟨wb, hwb⟩ : ∃ wb, wb = w.alloc (.cells (cP (.slice none 0 0) 0 zL) 34) := ⟨_, rfl⟩
 have h0 : wb.heap[g]? = some (.cells (cP (.slice none 0 0) 0 zL) 34 (0, 0)) := by rw [hwb]; exact h_new hg
 have hb : Below w.heap.size w wb := by rw [hwb]; exact below_alloc (Below.refl _ _) _
 have hs : wb.heap.size = g + 1 := by rw [hwb, size_alloc, hg]
 have HB := Aside0.mk (⟨h0, hb, hs, Kd.C_below hr hb⟩ : _ ∧ _ ∧ _ ∧ _)
 have HWB := Aside0.mk ((zPw w).symm.trans hwb.symm)
 clear h0 hb hs hwb hr
 have HG := Aside0.mk hg
 clear hg
 have HL := Aside0.mk hl
 clear hl
 obtain ⟨L, hL⟩ : ∃ L, L = itemsOf l := ⟨_, rfl⟩
 obtain ⟨s, hs⟩ : ∃ s, hk k = s := ⟨_, rfl⟩
 have HE := Aside0.mk (And.intro hL hs)
 have HLS := Aside0.mk (show SmI L by rw [hL]; exact HL.out.items)
 clear hL hs
 go_enter Tryz.func7, Tryz.ntmps7
 go_wp2_with (first
  | ((with_reducible refine gate_dst (N := 10) rfl ?_); (refine at_world (w' := wb) HWB.out ?_); rw [← HG.out]; (refine wpList_built0 rfl 34 rfl (cP (.slice none 0 0) 0 zL) (by kernel_rfl) ?_))
  | (go_at_call 26; go_loud (refine (items4_calls l A c wb HB.out.2.2.2 hc HL.out.small).mono ?_); rw [← HE.out.1]; rintro e w1 ⟨v1, rfl, hv1, hb1⟩; obtain ⟨A1, c1, rfl, hc1, hr1⟩ := Kd.R_reads hv1; have H1 := Aside0.mk (And.intro hv1 hb1); clear hr1 hb1 hv1)
  | ((with_reducible refine gate_dst (N := 14) rfl ?_); (refine wpList_str rfl (.tmp 13) rfl k rfl Tryz.underlying9 Tryz.underlying53 Tryz.underlying5 ?_))
  | (go_at_call 27; (refine (sumK3_calls k (by omega) w1).mono ?_); rw [HE.out.2]; rintro e w2 ⟨rfl, hb2⟩; have hb3 := below_tr (bytes_below' w1 k) hb2 (bytes_below' w1 k).size; have H2 := Aside0.mk (And.intro (Kd.R_below H1.out.1 hb3) (below_tr H1.out.2 hb3 H1.out.2.size)); clear hb2 hb3)
  | ((with_reducible refine gate_store (t := 34) rfl ?_); obtain ⟨wx, hwx⟩ : ∃ wx, (w2.alloc (.cells (cP (.slice none 0 0) 0 zL) 34)).alloc (.cells (cS zS) 30) = wx := ⟨_, rfl⟩; (refine at_world (w' := wx) hwx ?_); obtain ⟨g5, hg5⟩ : ∃ g5, w2.heap.size = g5 := ⟨_, rfl⟩; rw [hg5]; have hx5 : wx.heap[g5]? = some (.cells (cP (.slice none 0 0) 0 zL) 34 (0, 0)) := (by rw [← hwx, h_old (by rw [size_alloc]; omega)]; exact h_new hg5.symm); have hx7 : wx.heap[g5 + 1]? = some (.cells (cS zS) 30 (0, 0)) := (by rw [← hwx]; exact h_new (by rw [size_alloc]; omega)); have hbx : Below w2.heap.size w2 wx := (by rw [← hwx]; exact below_alloc (below_alloc (Below.refl _ _) _) _); have hsx : wx.heap.size = g5 + 2 := (by rw [← hwx, size_alloc, size_alloc]; omega); clear hwx; have HX := Aside0.mk (⟨hx5, hx7, hbx, hsx, hg5⟩ : _ ∧ _ ∧ _ ∧ _ ∧ _); clear hx5 hx7 hbx hsx hg5; (refine wpList_store_row rfl 34 (.tmp 5) (.tmp 10) rfl g5 (cP (.slice none 0 0) 0 zL) rfl rfl 34 (cP (.slice none 0 0) 0 zL) HX.out.1 ?g3 rfl (all_one (cP_one rfl _ _)) ?_); (case g3 => rw [cP_size]; kernel_rfl))
  | ((with_reducible refine gate_store (t := 30) rfl ?_); (refine wpList_store_row rfl 30 (.tmp 7) (.tmp 15) rfl (g5 + 1) (cS s) rfl rfl 30 (cS zS) ((setRow_other _ _ _ _ (by omega)).trans HX.out.2.1) ?g3 ?g4 (encI_one _) ?_); (case g3 => rw [cS_size]; kernel_rfl); (case g4 => rw [cS_size, cS_size])))
 obtain ⟨wy, hwy⟩ : ∃ wy, wy = (wx.setRow g5 (cP (.slice none 0 0) 0 zL)).setRow (g5 + 1) (cS s) := ⟨_, rfl⟩
 have hy5 : wy.heap[g5]? = some (.cells (cP (.slice none 0 0) 0 zL) 34 (0, 0)) := by rw [hwy, setRow_other _ _ _ _ (by omega)]; exact setRow_heap _ _ _ _ _ _ HX.out.1
 have hy7 : wy.heap[g5 + 1]? = some (.cells (cS s) 30 (0, 0)) := by rw [hwy]; exact setRow_heap _ _ _ _ _ _ ((setRow_other _ _ _ _ (by omega)).trans HX.out.2.1)
 have hby : Below w2.heap.size w2 wy := by rw [hwy]; exact below_setRow (below_setRow HX.out.2.2.1 (by have := HX.out.2.2.2.2; omega)) (by have := HX.out.2.2.2.2; omega)
 have hsy : wy.heap.size = g5 + 2 := by rw [hwy, size_setRow, size_setRow]; exact HX.out.2.2.2.1
 rw [← hwy]
 clear hwy
 have hgg : g < g5 := by have h1 := HB.out.2.2.1; have h2 := H2.out.2.size; have h3 := HX.out.2.2.2.2; omega
 have HY := Aside0.mk (⟨hy5, hy7, hsy, ((hby.block g (by have := HX.out.2.2.2.2; omega)).trans ((H2.out.2.block g (by have := HB.out.2.2.1; omega)).trans HB.out.1)), Kd.R_lower (base' := g + 1) (Kd.R_below H2.out.1 hby) (by have := HB.out.2.2.1; omega), (HB.out.2.1.trans (((H2.out.2.trans (hby.mono H2.out.2.size))).mono (by have := HB.out.2.2.1; have := HG.out; omega)))⟩ : _ ∧ _ ∧ _ ∧ _ ∧ _ ∧ _)
 clear hy5 hy7 hby hsy
 have HGG := Aside0.mk hgg
 go_loopw [6, 8, 9] (fun v6 i v9 wr => ∃ (d : Nat) (M : List It) (P : List Sm) (A3 : Option Addr) (c3 : Nat) (v : Value), v6 = .slice A3 M.length c3 ∧ i = .int .i64 (d : Int) ∧ d ≤ 256 ∧ Aside0 (P.length = d ∧ M.length ≤ c3 ∧ SmI M ∧ P ++ (wayF (256 - d) M s d).1 = (wayOf L s).1 ∧ (wayF (256 - d) M s d).2 = (wayOf L s).2) ∧ Aside0 (kI.R 64 wr (g + 1) (fun _ => True) (.slice A3 M.length c3) M ∧ kS.R 30 wr (g5 + 2) (fun _ => True) v P ∧ wr.heap[g5]? = some (.cells (cP v 0 zL) 34 (0, 0)) ∧ wr.heap[g5 + 1]? = some (.cells (cS s) 30 (0, 0)) ∧ wr.heap[g]? = some (.cells (cP (.slice none 0 0) 0 zL) 34 (0, 0)) ∧ Below w.heap.size w wr ∧ g5 + 2 ≤ wr.heap.size)) (fun _ i _ _ => 257 - (intOf i).toNat)
 case atStart => exact ⟨0, L, [], A1, c1, .slice none 0 0, rfl, rfl, by omega, ⟨rfl, hc1, HLS.out, by rw [List.nil_append]; rfl, rfl⟩, ⟨HY.out.2.2.2.2.1, Kd.R_nil _ _ _ _ _, HY.out.1, HY.out.2.1, HY.out.2.2.2.1, HY.out.2.2.2.2.2, by have := HY.out.2.2.1; omega⟩⟩
 case round =>
  clear HY HX H2 H1
  obtain ⟨d, M, P, A3, c3, v, rfl, rfl, hd, HM, HR⟩ := hrel
  by_cases hen : endsOf M d = true
  ·have hsz := HR.out.2.2.2.2.2.2
   have hP := HM.out.2.2.2.1
   have hE := HM.out.2.2.2.2
   rw [wayF_end s hen, List.append_nil] at hP
   rw [wayF_end s hen] at hE
   have hP' : P = (wayOf L s).1 := hP
   have hE' : M = (wayOf L s).2 := hE
   clear hP hE
   have hpo : proveOf l k = if M.length = 0 then ⟨P, 0, zL⟩ else ⟨P, if (M.getD 0 zI).x.k = k then 1 else 2, (M.getD 0 zI).x⟩ := by rw [proveOf, ← HE.out.1, HE.out.2, ← hP', ← hE']
   have HPO := Aside0.mk hpo
   clear hpo hP' hE'
   obtain ⟨A9, c9, rfl, hc9, hr9⟩ := Kd.R_reads HR.out.2.1
   have HV := Aside0.mk (And.intro hr9 hc9)
   clear hr9 hc9
   by_cases h0 : M.length = 0
   ·have h0b : ((M.length : Int) == 0) = true := by simp [h0]
    have hpe : proveOf l k = ⟨P, 0, zL⟩ := by rw [HPO.out, if_pos h0]
    have HPE := Aside0.mk hpe
    clear h0 hpe
    have hl2 : (loadVar 34 ⟨g5, 0, none⟩).run Tryz.prog wr = .ok (.agg (cP (.slice A9 P.length c9) 0 zL)) wr := ld_P HR.out.2.2.1 0
    obtain ⟨C, hC⟩ : ∃ C, C = cP (.slice A9 P.length c9) 0 zL := ⟨_, rfl⟩
    rw [← hC] at hl2
    have HC := Aside0.mk (⟨hC, by rw [hC, cP_size], by rw [hC]; exact all_one (cP_one rfl _ _)⟩ : C = cP (.slice A9 P.length c9) 0 zL ∧ C.size = 35 ∧ C.all (·.oneCell') = true)
    clear hC
    go_wp2_with (first
     | (go_at_call 28; (refine (ends4_calls M d hd _ _ _).mono ?_); rw [hen]; rintro e w3 ⟨rfl, e1⟩; rw [e1]; clear e1)
     | ((with_reducible refine gate_dst (N := 45) rfl ?_); refine wpList_loadv rfl _ _ rfl _ rfl _ hl2 ?_)
     | ((with_reducible refine gate_store (t := 34) rfl ?_); (refine wpList_store_row rfl 34 (.tmp 4) (.tmp 45) rfl g C rfl rfl 34 (cP (.slice none 0 0) 0 zL) HR.out.2.2.2.2.1 ?g3 ?g4 HC.out.2.2 ?_); (case g3 => rw [HC.out.2.1]; kernel_rfl); (case g4 => rw [HC.out.2.1, cP_size])))
    rw [HPE.out]
    refine bodyPost_ret (v := .agg C) ?_ rfl ⟨A9, c9, by rw [HC.out.1], ?_, HV.out.2, below_setRow HR.out.2.2.2.2.2.1 (by have := HG.out; omega)⟩
    ·exact results_cell_row rfl _ _ g 34 _ (0, 0) _ rfl (setRow_heap _ _ _ _ _ _ HR.out.2.2.2.2.1) hu36 rfl (by rw [HC.out.2.1]; kernel_rfl)
    ·exact Kd.R_lower (R_setRow HR.out.2.1 (by have := HGG.out; omega) C) (Nat.zero_le _)
   ·have h0b : ((M.length : Int) == 0) = false := by simp [h0]
    have hpos : 0 < M.length := by omega
    obtain ⟨y, hy⟩ : ∃ y, y = M.getD 0 zI := ⟨_, rfl⟩
    obtain ⟨ad, eA, hat⟩ := at_flat (R_C HR.out.1).2.2 zI (0 : Int) (by omega) (by omega)
    subst eA
    rw [show ((0 : Int).toNat) = 0 from rfl, ← hy, Nat.zero_mul, Addr.add_zero'] at hat
    have hne : ad.block ≠ g5 := R_off HR.out.1 HR.out.2.2.1 (by decide) ad rfl hpos
    have hpe : proveOf l k = ⟨P, if y.x.k = k then 1 else 2, y.x⟩ := by rw [HPO.out, if_neg h0, ← hy]
    have HPE := Aside0.mk hpe
    have HAT := Aside0.mk (And.intro (at_I0 hat) hne)
    obtain ⟨z, hz⟩ : ∃ z, z = y.x := ⟨_, rfl⟩
    rw [← hz] at HPE HAT
    have h0c : ((0 : Int) < (M.length : Int)) = True := eq_true (by omega)
    have h0n : (0 < M.length) = True := eq_true hpos
    clear h0 hpe hne hat hy hz hpos
    go_wp2_with (first
     | (go_at_call 28; (refine (ends4_calls M d hd _ _ _).mono ?_); rw [hen]; rintro e w3 ⟨rfl, e1⟩; rw [e1]; clear e1))
    refine start_ (n := 8) (S := fun w' => ∀ b, b ≠ g5 → w'.heap[b]? = wr.heap[b]?) (ds := []) #[false, false, false, false, false, false, false, false] (by kernel_rfl) rfl rfl (fun _ _ => rfl) (fun hHeld => ?_)
    refine pure_ (i := 0) (N := some 46) (v := ?_) (a' := ?_) #[true, false, false, false, false, false, false, false] rfl rfl (by kernel_rfl) (fun _ _ _ h => h) (Or.inl ⟨by rfl, ?_⟩) ?_ ?_
    rotate_left
    ·intro w'
     go_simp
     with_reducible rfl
    rotate_left
    ·simp only [Act.put, lZa, lZb, lZc, i64_w, i32_w]
     rfl
    refine pure_ (i := 1) (N := some 47) (v := ?_) (a' := ?_) #[true, true, false, false, false, false, false, false] rfl rfl (by kernel_rfl) (fun _ _ _ h => h) (Or.inl ⟨by rfl, ?_⟩) ?_ ?_
    rotate_left
    ·intro w'
     go_simp
     with_reducible rfl
    rotate_left
    ·simp only [Act.put, lZa, lZb, lZc, i64_w, i32_w]
     rfl
    refine pure_ (i := 2) (N := some 48) (v := ?_) (a' := ?_) #[true, true, true, false, false, false, false, false] rfl rfl (by kernel_rfl) (fun _ _ _ h => h) (Or.inl ⟨by rfl, ?_⟩) ?_ ?_
    rotate_left
    ·intro w'
     go_simp
     with_reducible rfl
    rotate_left
    ·simp only [Act.put, lZa, lZb, lZc, i64_w, i32_w]
     rfl
    refine take_ (i := 3) (N := some 49) (v := .agg (cL z)) (a' := ?_) #[true, true, true, true, false, false, false, false] rfl rfl (by kernel_rfl) (fun _ _ _ h => h) (Or.inl ⟨by rfl, fun w' hS => yield_load _ _ rfl _ rfl (run_loadVar_at _ ad 32 (cL z) _ (fun j u hj => (World.cell?_of_block (hS _ (by rw [show (ad.add j).block = ad.block by unfold Addr.add; split <;> rfl]; exact HAT.out.2))).trans (HAT.out.1 j u hj)) Tryz.underlying32 rfl (by rw [cL_size]; kernel_rfl))⟩) hHeld ?_ ?_
    rotate_left
    ·simp only [Act.put, lZa, lZb, lZc, i64_w, i32_w]
     rfl
    refine pure_ (i := 4) (N := some 50) (v := ?_) (a' := ?_) #[true, true, true, true, true, false, false, false] rfl rfl (by kernel_rfl) (fun _ _ _ h => h) (Or.inl ⟨by rfl, ?_⟩) ?_ ?_
    rotate_left
    ·intro w'
     go_simp
     with_reducible rfl
    rotate_left
    ·simp only [Act.put, lZa, lZb, lZc, i64_w, i32_w]
     rfl
    refine one_ (i := 5) (N := none) #[true, true, true, true, true, true, false, false] rfl rfl (by kernel_rfl) (by decide) (fun K hK => ?_)
    refine st_cell (by rfl) rfl 3 (.tmp 50) (.const (.int .i64 2)) rfl ⟨g5, 1, none⟩ (.int .i64 2) (.int .i64 0) rfl rfl rfl rfl rfl (by kernel_rfl) (cell_P1 HR.out.2.2.1) (froz_P 1 HR.out.2.2.1) ?_
    refine hK.out _ _ (fun b hb => heap_setCell_ne hb) (fun hHeld => ?_)
    clear hK K
    refine pure_ (i := 6) (N := some 51) (v := ?_) (a' := ?_) #[true, true, true, true, true, true, true, false] rfl rfl (by kernel_rfl) (fun _ _ _ h => h) (Or.inl ⟨by rfl, ?_⟩) ?_ ?_
    rotate_left
    ·intro w'
     go_simp
     with_reducible rfl
    rotate_left
    ·simp only [Act.put, lZa, lZb, lZc, i64_w, i32_w]
     rfl
    refine one_ (i := 7) (N := none) #[true, true, true, true, true, true, true, true] rfl rfl (by kernel_rfl) (by decide) (fun K hK => ?_)
    refine st_mid (by rfl) rfl 32 (.tmp 51) (.tmp 49) rfl g5 2 (cL z) rfl rfl (by rw [cL_size]; exact there_P2 (set_P1 2 HR.out.2.2.1)) (by rw [cL_size]; kernel_rfl) (all_one (cL_one _)) ?_
    refine hK.out _ _ (fun b hb => (heap_setCells_ne hb _ _ _).trans (heap_setCell_ne hb)) (fun hHeld => ?_)
    clear hK K
    refine done_ (by kernel_rfl) ?_
    obtain ⟨wz, hwz⟩ : ∃ wz, wz = (wr.drew.setCell ⟨g5, 1, none⟩ (.int .i64 2)).setCells g5 2 (cL z).toList := ⟨_, rfl⟩
    have hz5 : wz.heap[g5]? = some (.cells (cP (.slice A9 P.length c9) 2 z) 34 (0, 0)) := by rw [hwz]; exact set_P2 (set_P1 2 HR.out.2.2.1)
    have hzo : ∀ b, b ≠ g5 → wz.heap[b]? = wr.heap[b]? := fun b hb => by rw [hwz]; exact (heap_setCells_ne hb _ _ _).trans (heap_setCell_ne hb)
    have hzb : Below w.heap.size w wz := by rw [hwz]; exact below_setCells _ _ (HR.out.2.2.2.2.2.1.drew.setCell (p := ⟨g5, 1, none⟩) (by have := HG.out; have := HGG.out; show w.heap.size ≤ g5; omega) _) (by have := HG.out; have := HGG.out; omega)
    have hzr : kS.R 30 wz (g5 + 2) (fun _ => True) (.slice A9 P.length c9) P := Kd.R_mono (Kd.R_step (Kd.R_bound HR.out.2.1) (fun k hk _ => hzo k (by have := hk.2.1; omega))) (fun _ _ => trivial)
    have HZ := Aside0.mk (⟨hz5, (hzo g (by have := HGG.out; omega)).trans HR.out.2.2.2.2.1, hzb, hzr⟩ : _ ∧ _ ∧ _ ∧ _)
    have hxk := cell_P2 hz5
    have hxe := cell_P1 hz5
    have hxf := froz_P 1 hz5
    rw [← hwz]
    clear hwz hz5 hzo hzb hzr
    by_cases hq : z.k.toList = k.toList
    ·have hqb : (z.k.toList == k.toList) = true := by simp [hq]
     have hpe : proveOf l k = ⟨P, 1, z⟩ := by rw [HPE.out, if_pos (toList_inj.1 hq)]
     have HP1 := Aside0.mk hpe
     have h5 := set_P1 (g := g5) 1 HZ.out.1
     have hl2 : (loadVar 34 ⟨g5, 0, none⟩).run Tryz.prog (wz.setCell ⟨g5, 1, none⟩ (.int .i64 1)) = .ok (.agg (cP (.slice A9 P.length c9) 1 z)) (wz.setCell ⟨g5, 1, none⟩ (.int .i64 1)) := ld_P h5 0
     obtain ⟨C, hC⟩ : ∃ C, C = cP (.slice A9 P.length c9) 1 z := ⟨_, rfl⟩
     rw [← hC] at hl2
     have HC := Aside0.mk (⟨hC, by rw [hC, cP_size], by rw [hC]; exact all_one (cP_one rfl _ _)⟩ : C = cP (.slice A9 P.length c9) 1 z ∧ C.size = 35 ∧ C.all (·.oneCell') = true)
     have hgo : (wz.setCell ⟨g5, 1, none⟩ (.int .i64 1)).heap[g]? = some (.cells (cP (.slice none 0 0) 0 zL) 34 (0, 0)) := (heap_setCell_ne (by have := HGG.out; omega)).trans HZ.out.2.1
     have HGO := Aside0.mk hgo
     clear hC h5 hpe hq hgo
     go_wp2_with (first
      | ((with_reducible refine gate_dst (N := 58) rfl ?_); refine wpList_loadv rfl _ _ rfl _ rfl _ hl2 ?_)
      | ((with_reducible refine gate_store (t := 34) rfl ?_); (refine wpList_store_row rfl 34 (.tmp 4) (.tmp 58) rfl g C rfl rfl 34 (cP (.slice none 0 0) 0 zL) HGO.out ?g3 ?g4 HC.out.2.2 ?_); (case g3 => rw [HC.out.2.1]; kernel_rfl); (case g4 => rw [HC.out.2.1, cP_size])))
     rw [HP1.out]
     refine bodyPost_ret (v := .agg C) ?_ rfl ⟨A9, c9, by rw [HC.out.1], ?_, HV.out.2, below_setRow (HZ.out.2.2.1.setCell (p := ⟨g5, 1, none⟩) (by have := HG.out; have := HGG.out; show w.heap.size ≤ g5; omega) _) (by have := HG.out; omega)⟩
     ·exact results_cell_row rfl _ _ g 34 _ (0, 0) _ rfl (setRow_heap _ _ _ _ _ _ HGO.out) hu36 rfl (by rw [HC.out.2.1]; kernel_rfl)
     ·exact Kd.R_lower (R_setRow (R_setCell HZ.out.2.2.2 (by omega) _) (by have := HGG.out; omega) C) (Nat.zero_le _)
    ·have hqb : (z.k.toList == k.toList) = false := by simp [hq]
     have hpe : proveOf l k = ⟨P, 2, z⟩ := by rw [HPE.out, if_neg (fun e => hq (toList_inj.2 e))]
     have HP1 := Aside0.mk hpe
     have hl2 : (loadVar 34 ⟨g5, 0, none⟩).run Tryz.prog wz = .ok (.agg (cP (.slice A9 P.length c9) 2 z)) wz := ld_P HZ.out.1 0
     obtain ⟨C, hC⟩ : ∃ C, C = cP (.slice A9 P.length c9) 2 z := ⟨_, rfl⟩
     rw [← hC] at hl2
     have HC := Aside0.mk (⟨hC, by rw [hC, cP_size], by rw [hC]; exact all_one (cP_one rfl _ _)⟩ : C = cP (.slice A9 P.length c9) 2 z ∧ C.size = 35 ∧ C.all (·.oneCell') = true)
     clear hC hpe hq
     go_wp2_with (first
      | ((with_reducible refine gate_dst (N := 58) rfl ?_); refine wpList_loadv rfl _ _ rfl _ rfl _ hl2 ?_)
      | ((with_reducible refine gate_store (t := 34) rfl ?_); (refine wpList_store_row rfl 34 (.tmp 4) (.tmp 58) rfl g C rfl rfl 34 (cP (.slice none 0 0) 0 zL) HZ.out.2.1 ?g3 ?g4 HC.out.2.2 ?_); (case g3 => rw [HC.out.2.1]; kernel_rfl); (case g4 => rw [HC.out.2.1, cP_size])))
     rw [HP1.out]
     refine bodyPost_ret (v := .agg C) ?_ rfl ⟨A9, c9, by rw [HC.out.1], ?_, HV.out.2, below_setRow HZ.out.2.2.1 (by have := HG.out; omega)⟩
     ·exact results_cell_row rfl _ _ g 34 _ (0, 0) _ rfl (setRow_heap _ _ _ _ _ _ HZ.out.2.1) hu36 rfl (by rw [HC.out.2.1]; kernel_rfl)
     ·exact Kd.R_lower (R_setRow HZ.out.2.2.2 (by have := HGG.out; omega) C) (Nat.zero_le _)
  ·have hen0 : endsOf M d = false := by simpa using hen
   obtain ⟨hd1, hl1⟩ := ends_lt hen0
   have hwg := wayF_go s hen0
   obtain ⟨β, hβ⟩ : ∃ β, bitI s d = β := ⟨_, rfl⟩
   obtain ⟨γ, hγ⟩ : ∃ γ, 1 - β = γ := ⟨_, rfl⟩
   have K5 : wrap64 (1 - β) = γ := by rw [← hγ]; rcases bitI_01 s d with h | h <;> rw [hβ] at h <;> rw [h] <;> unfold wrap64 <;> omega
   rw [hβ, hγ] at hwg
   obtain ⟨M0, hM0⟩ : ∃ x, halfOf M d γ = x := ⟨_, rfl⟩
   obtain ⟨M1, hM1⟩ : ∃ x, halfOf M d β = x := ⟨_, rfl⟩
   rw [hM0, hM1] at hwg
   have HS0 := Aside0.mk (show SmI M0 by rw [← hM0]; exact HM.out.2.2.1.half d γ)
   have HS1 := Aside0.mk (show SmI M1 by rw [← hM1]; exact HM.out.2.2.1.half d β)
   obtain ⟨p, hp⟩ : ∃ p, hashOf M0 (d + 1) = p := ⟨_, rfl⟩
   rw [hp] at hwg
   have HW := Aside0.mk hwg
   have HH := Aside0.mk (⟨hM0, hM1, hp, hβ⟩ : _ ∧ _ ∧ _ ∧ _)
   clear hM0 hM1 hp hwg hβ hl1 hγ
   have hml := HM.out.2.2.1.1
   obtain ⟨A9, c9, rfl, _, _⟩ := Kd.R_reads HR.out.2.1
   have K6 : wrap64 ((d : Int) + 1) = ((d + 1 : Nat) : Int) := by clear K5; unfold wrap64; omega
   have HK := Aside0.mk (And.intro K5 K6)
   clear K5 K6
   have hls : (loadVar 30 ⟨g5 + 1, 0, none⟩).run Tryz.prog wr = .ok (.agg (cS s)) wr := ld_S HR.out.2.2.2.1 0
   go_wp2_with (first
    | (go_at_call 28; (refine (ends4_calls M d hd _ _ _).mono ?_); rw [hen0]; rintro e w3 ⟨rfl, e1⟩; rw [e1]; clear e1)
    | ((with_reducible refine gate_dst (N := 22) rfl ?_); refine wpList_loadv rfl _ _ rfl _ rfl _ hls ?_)
    | (go_at_call 29; (refine (bit4_calls s d hd1 _).mono ?_); rw [HH.out.2.2.2]; rintro e w3 ⟨rfl, hb3⟩; have H3 := Aside0.mk (⟨Kd.R_below HR.out.1 hb3, Kd.R_below HR.out.2.1 hb3, (hb3.block g5 (by have := HR.out.2.2.2.2.2.2; omega)).trans HR.out.2.2.1, (hb3.block (g5 + 1) (by have := HR.out.2.2.2.2.2.2; omega)).trans HR.out.2.2.2.1, (hb3.block g (by have := HR.out.2.2.2.2.2.2; have := HGG.out; omega)).trans HR.out.2.2.2.2.1, below_tr HR.out.2.2.2.2.2.1 hb3 HR.out.2.2.2.2.2.1.size, (show g5 + 2 ≤ w3.heap.size by have := hb3.size; have := HR.out.2.2.2.2.2.2; omega)⟩ : _ ∧ _ ∧ _ ∧ _ ∧ _ ∧ _ ∧ _); clear hb3 hls))
   have hc0 := cell_P0 H3.out.2.2.1
   have HC0 := Aside0.mk hc0
   clear hc0
   refine start_ (n := 14) (S := fun w' => Below w3.heap.size w3 w') (ds := [11, 12, 13]) #[false, false, false, false, false, false, false, false, false, false, false, false, false, false] (by kernel_rfl) rfl rfl (Below.refl _ _).drew (fun hHeld => ?_)
   refine pure_ (i := 0) (N := some 25) (v := ?_) (a' := ?_) #[true, false, false, false, false, false, false, false, false, false, false, false, false, false] rfl rfl (by kernel_rfl) (fun _ _ _ h => h) (Or.inl ⟨by rfl, ?_⟩) ?_ ?_
   rotate_left
   ·intro w'
    go_simp
    with_reducible rfl
   rotate_left
   ·simp only [Act.put, lZa, lZb, lZc, i64_w, i32_w]
    rfl
   refine take_ (i := 1) (N := some 26) (v := ?_) (a' := ?_) #[true, true, false, false, false, false, false, false, false, false, false, false, false, false] rfl rfl (by kernel_rfl) (fun _ _ _ h => h) (Or.inl ⟨by rfl, ?_⟩) hHeld ?_ ?_
   rotate_left
   ·intro w' hS
    have hx := (hS.cell (World.block_lt_of_cell? _ _ HC0.out)).trans HC0.out
    go_simp
    with_reducible rfl
   rotate_left
   ·simp only [Act.put, lZa, lZb, lZc, i64_w, i32_w]
    rfl
   refine pure_ (i := 2) (N := some 27) (v := ?_) (a' := ?_) #[true, true, true, false, false, false, false, false, false, false, false, false, false, false] rfl rfl (by kernel_rfl) (fun _ _ _ h => h) (Or.inl ⟨by rfl, ?_⟩) ?_ ?_
   rotate_left
   ·intro w'
    go_simp
    with_reducible rfl
   rotate_left
   ·simp only [Act.put, lZa, lZb, lZc, i64_w, i32_w]
    rfl
   refine pure_ (i := 3) (N := some 28) (v := ?_) (a' := ?_) #[true, true, true, true, false, false, false, false, false, false, false, false, false, false] rfl rfl (by kernel_rfl) (fun _ _ _ h => h) (Or.inl ⟨by rfl, ?_⟩) ?_ ?_
   rotate_left
   ·intro w'
    go_simp
    with_reducible rfl
   rotate_left
   ·simp only [Act.put, lZa, lZb, lZc, i64_w, i32_w]
    rfl
   refine pure_ (i := 4) (N := some 29) (v := ?_) (a' := ?_) #[true, true, true, true, true, false, false, false, false, false, false, false, false, false] rfl rfl (by kernel_rfl) (fun _ _ _ h => h) (Or.inl ⟨by rfl, ?_⟩) ?_ ?_
   rotate_left
   ·intro w'
    go_simp
    with_reducible rfl
   rotate_left
   ·simp only [Act.put, lZa, lZb, lZc, i64_w, i32_w]
    rfl
   refine pure_ (i := 5) (N := some 30) (v := ?_) (a' := ?_) #[true, true, true, true, true, true, false, false, false, false, false, false, false, false] rfl rfl (by kernel_rfl) (fun _ _ _ h => h) (Or.inl ⟨by rfl, ?_⟩) ?_ ?_
   rotate_left
   ·intro w'
    go_simp
    rw [i64_w, HK.out.1]
    try with_reducible rfl
   rotate_left
   ·simp only [Act.put, lZa, lZb, lZc, i64_w, i32_w]
    rfl
   refine pure_ (i := 7) (N := some 32) (v := ?_) (a' := ?_) #[true, true, true, true, true, true, false, true, false, false, false, false, false, false] rfl rfl (by kernel_rfl) (fun _ _ _ h => h) (Or.inl ⟨by rfl, ?_⟩) ?_ ?_
   rotate_left
   ·intro w'
    go_simp
    with_reducible rfl
   rotate_left
   ·simp only [Act.put, lZa, lZb, lZc, i64_w, i32_w]
    rfl
   refine pure_ (i := 8) (N := some 33) (v := ?_) (a' := ?_) #[true, true, true, true, true, true, false, true, true, false, false, false, false, false] rfl rfl (by kernel_rfl) (fun _ _ _ h => h) (Or.inl ⟨by rfl, ?_⟩) ?_ ?_
   rotate_left
   ·intro w'
    go_simp
    rw [i64_w, HK.out.2]
    try with_reducible rfl
   rotate_left
   ·simp only [Act.put, lZa, lZb, lZc, i64_w, i32_w]
    rfl
   refine one_ (i := 6) (N := some 31) #[true, true, true, true, true, true, true, true, true, false, false, false, false, false] rfl rfl (by kernel_rfl) (by decide) (fun K hK => ?_)
   refine goes_ Tryz.func31 (by kernel_rfl) rfl #[.slice A3 M.length c3, .int .i64 d, .int .i64 γ] (by rfl) rfl rfl (by simp only [List.map_toArray, List.map_cons, List.map_nil]; rfl) ?_
   refine (half4_calls M d hd1 γ A3 c3 _ (R_C (Kd.R_below H3.out.1 hHeld)).2.2 HM.out.2.1 hml).mono ?_
   rw [HH.out.1]
   rintro e w4 ⟨v4, rfl, hv4, hb4⟩
   obtain ⟨A4, c4, rfl, hc4, hr4⟩ := Kd.R_reads hv4
   refine ⟨_, rfl, ?_⟩
   refine hK.out _ _ (below_tr hHeld hb4 hHeld.size) (fun hHeld => ?_)
   clear hK K
   refine norm_ (a' := ?_) ?_ ?_
   rotate_left
   ·show Act.put _ (some 31) _ = _
    simp only [Act.put, lZa, lZb, lZc, i64_w, i32_w]
    rfl
   refine one_ (i := 9) (N := some 34) #[true, true, true, true, true, true, true, true, true, true, false, false, false, false] rfl rfl (by kernel_rfl) (by decide) (fun K hK => ?_)
   refine goes_ Tryz.func30 (by kernel_rfl) rfl #[.slice A4 M0.length c4, .int .i64 ((d + 1 : Nat) : Int)] (by rfl) rfl rfl (by simp only [List.map_toArray, List.map_cons, List.map_nil]; rfl) ?_
   refine (hash4_calls M0 (d + 1) hd1 A4 c4 w4 HS0.out hr4 hc4).mono ?_
   rw [HH.out.2.2.1]
   rintro e w5 ⟨rfl, hb5⟩
   refine ⟨_, rfl, ?_⟩
   refine hK.out _ _ (below_tr hHeld hb5 hHeld.size) (fun hHeld => ?_)
   clear hK K
   refine norm_ (a' := ?_) ?_ ?_
   rotate_left
   ·show Act.put _ (some 34) _ = _
    simp only [Act.put, lZa, lZb, lZc, i64_w, i32_w]
    rfl
   refine one_ (i := 10) (N := some 35) #[true, true, true, true, true, true, true, true, true, true, true, false, false, false] rfl rfl (by kernel_rfl) (by decide) (fun K hK => ?_)
   refine value_ (by rfl) rfl (bs1S_run (.tmp 34) rfl p rfl w5) ?_
   refine hK.out _ _ (below_tr hHeld (below_alloc (Below.refl _ _) _) hHeld.size) (fun hHeld => ?_)
   clear hK K
   refine norm_ (a' := ?_) ?_ ?_
   rotate_left
   ·show Act.put _ (some 35) _ = _
    simp only [Act.put, lZa, lZb, lZc, i64_w, i32_w]
    rfl
   refine tail_ 11 (by kernel_rfl) ?_
   simp only [List.toList_toArray, List.drop_succ_cons, List.drop_zero]
   rename_i _ _ hHeld2 hHeld3
   have hsw := H3.out.2.2.2.2.2.2
   have hr5 := Kd.R_below H3.out.1 hHeld3
   have hp5 := Kd.R_below H3.out.2.1 hHeld3
   have hb5 : Below (g5 + 2) w3 w5 := hHeld3.mono hsw
   have hs5 : g5 + 2 ≤ w5.heap.size := by have := hHeld3.size; omega
   have hPl : P.length ≤ 1000000 := by have := HM.out.1; omega
   clear hHeld hHeld2 hHeld3 hb4
   refine app_S2 (wa := w3) rfl (.tmp 26) (.tmp 35) rfl (.slice A9 P.length c9) P p rfl rfl (g5 + 2) hp5 hb5 hs5 hPl ?_
   intro v6 w6 hr6 hb6 hg6
   have hm6 := R_grownT hr5 hp5 hg6 (by decide)
   obtain ⟨A6, c6, e6, _, _⟩ := Kd.R_reads hr6
   rw [List.length_append, List.length_singleton] at e6
   subst e6
   have h65 := (hb6.block g5 (by omega)).trans H3.out.2.2.1
   have hx0 := cell_P0 h65
   have hf0 := froz_P 0 h65
   have h7 : Aside0 (∀ w7, w7 = w6.setCell ⟨g5, 0, none⟩ (.slice A6 (P.length + 1) c6) → kI.R 64 w7 (g + 1) (fun _ => True) (.slice A3 M.length c3) M ∧ kS.R 30 w7 (g5 + 2) (fun _ => True) (.slice A6 (P.length + 1) c6) (P ++ [p]) ∧ w7.heap[g5]? = some (.cells (cP (.slice A6 (P.length + 1) c6) 0 zL) 34 (0, 0)) ∧ w7.heap[g5 + 1]? = some (.cells (cS s) 30 (0, 0)) ∧ w7.heap[g]? = some (.cells (cP (.slice none 0 0) 0 zL) 34 (0, 0)) ∧ Below w.heap.size w w7 ∧ g5 + 2 ≤ w7.heap.size) := ⟨fun w7 e7 => by
    have hgw := HGG.out
    have hgs := HG.out
    rw [e7]
    refine ⟨Kd.R_set hm6 h65 (by decide) 0 _, Kd.R_set hr6 h65 (by decide) 0 _, set_P0 h65, (heap_setCell_ne (by omega)).trans ((hb6.block _ (by omega)).trans H3.out.2.2.2.1), (heap_setCell_ne (by omega)).trans ((hb6.block _ (by omega)).trans H3.out.2.2.2.2.1), (H3.out.2.2.2.2.2.1.trans (hb6.mono (by omega))).setCell (p := ⟨g5, 0, none⟩) (by show w.heap.size ≤ g5; omega) _, ?_⟩
    have := hb6.size
    show g5 + 2 ≤ (w6.heap.modify _ _).size
    rw [Array.size_modify]
    omega⟩
   clear hr5 hp5 hb5 hs5 hPl hr6 hb6 hg6 hm6 h65 hsw hr4 hc4 hv4
   go_wp2_with (first
    | (go_at_call 31; generalize hw7 : w6.setCell ⟨g5, 0, none⟩ (.slice A6 (P.length + 1) c6) = w7; have H7 := Aside0.mk (h7.out w7 hw7.symm); clear hw7 h7 hx0 hf0; (refine (half4_calls M d hd1 β A3 c3 w7 (R_C H7.out.1).2.2 HM.out.2.1 hml).mono ?_); rw [HH.out.2.1]; rintro e w8 ⟨v8, rfl, hv8, hb8⟩; obtain ⟨A8, c8, rfl, hc8, hr8⟩ := Kd.R_reads hv8; have H8 := Aside0.mk (⟨hv8, hb8, hc8⟩ : _ ∧ _ ∧ _); clear hv8 hb8 hc8 hr8))
   refine ⟨⟨d + 1, M1, P ++ [p], A8, c8, _, rfl, by simp, hd1, ⟨by rw [List.length_append, HM.out.1]; rfl, H8.out.2.2, HS1.out, ?_, ?_⟩, ⟨Kd.R_lower H8.out.1 (by have := H7.out.2.2.2.2.2.2; have := HGG.out; omega), Kd.R_below H7.out.2.1 H8.out.2.1, (H8.out.2.1.block _ (by have := H7.out.2.2.2.2.2.2; omega)).trans H7.out.2.2.1, (H8.out.2.1.block _ (by have := H7.out.2.2.2.2.2.2; omega)).trans H7.out.2.2.2.1, (H8.out.2.1.block _ (by have := H7.out.2.2.2.2.2.2; have := HGG.out; omega)).trans H7.out.2.2.2.2.1, below_tr H7.out.2.2.2.2.2.1 H8.out.2.1 H7.out.2.2.2.2.2.1.size, by have := H7.out.2.2.2.2.2.2; have := H8.out.2.1.size; omega⟩⟩, by simp [intOf]; omega⟩
   ·have h := HM.out.2.2.2.1
    rw [HW.out] at h
    rw [List.append_assoc]
    exact h
   ·have h := HM.out.2.2.2.2
    rw [HW.out] at h
    exact h
theorem Prove4_calls (l : List Lf) (k : ByteArray) (A : Option Addr) (c : Nat) (w : World) (hr : kL.C w A l.length l) (hc : l.length ≤ c) (hl : SmL l) (hk1 : k.size ≤ 100000) :
  Calls Tryz.prog 7 #[.slice A l.length c, .string k] w fun e w' => ∃ A' c', e = .returned (.agg (cP (.slice A' (proveOf l k).p.length c') (proveOf l k).e (proveOf l k).l)) ∧ kS.C w' A' (proveOf l k).p.length (proveOf l k).p ∧ (proveOf l k).p.length ≤ c' ∧ Below w.heap.size w w' := by
 refine (Prove4w_calls l k A c w hr hc hl hk1).mono ?_
 rintro e w' ⟨A', c', rfl, h1, h2, h3⟩
 exact ⟨A', c', rfl, (R_C h1).2.2, h2, h3⟩
end Go.Proofs.YtanabbjakacgbaaGreatDoor.Sp
namespace Go.Proofs.YtanabbjakacgbaaGreatDoor.Sp
open Go.RowKit Go.Proofs.YtanabbjakacgbaaGreatDoorW.PrintWords Go.Proofs.YtanabbjakacgbaaGreatDoorW.PrintLast Go.Proofs.YtanabbjakacgbaaGreatDoorW.PrintMore Go.Proofs.YtanabbjakacgbaaGreatDoor.PM
set_option linter.unusedVariables false
set_option linter.unusedSimpArgs false
section
variable {P : Program} {ops : Array Oper} {Q : Exit → Act → World → Prop}
theorem wpIn_of_wp_oper (l n : Nat) {o : Oper} {a : Act} {w : World} {K : Act → World → Prop} (hd : ∀ c, o.op ≠ .defer c) (h : o.wp P a w K Q) : o.wpIn (Fence.wide.inRound l) n P a w K Q := by
 refine ⟨fun _ _ => trivial, ?_⟩
 rw [Oper.semAt_plain _ _ _ hd]
 unfold Oper.wp at h
 generalize (execOp a.eval o).run P w = r at h
 unfold Oper.upon at h
 unfold Oper.uponIn
 split at h
 ·exact h
 ·exact h
 ·exact h
 ·exact ⟨(fun h => by cases h), CallsIn.inRound _ (callsIn_wide.2 h)⟩
 ·exact ⟨(fun h => by cases h), fun c cs _ => let ⟨v, w', r, s⟩ := h c cs; ⟨v, w', r, stepsIn_wide.2 s⟩⟩
 ·exact h
 ·exact h.elim
theorem wpOpIn_of_wpOp (l n : Nat) (hq : ¬ LetsOut Q) (hd : ∀ (i : Nat) o, ops[i]? = some o → ∀ c, o.op ≠ .defer c) {i : Nat} {K K' : Act → World → Prop} {a : Act} {w : World} (hK : ∀ a w, K a w → K' a w) (h : wpOp P ops Q i K a w) : wpOpIn (Fence.wide.inRound l) n P ops Q i K' a w := by
 unfold wpOp at h
 unfold wpOpIn
 cases ho : ops[i]? with
 | none => rw [ho] at h; exact hK _ _ h
 | some o =>
  rw [ho] at h
  simp only at h ⊢
  by_cases hw : Region.wanted o (yielded ops a.tmps) = true
  ·rw [if_pos hw] at h ⊢
   rcases h with h | h
   ·exact Oper.wpIn_mono hK (wpIn_of_wp_oper l n (hd i o ho) h)
   ·exact absurd h.2 hq
  ·rw [if_neg hw] at h ⊢
   exact ⟨fun _ _ => trivial, hK _ _ h⟩
theorem wpAnyIn_of_wpAny (l n : Nat) (hq : ¬ LetsOut Q) (hd : ∀ (i : Nat) o, ops[i]? = some o → ∀ c, o.op ≠ .defer c) {md : Region.Mode} : ∀ (fuel : Nat) (listed : Array Bool) (a : Act) (w : World), wpAny P md ops Q fuel listed a w → wpAnyIn (Fence.wide.inRound l) n P md ops Q fuel listed a w
 | 0, _, _, _, h => h
 | fuel + 1, _, _, _, h => ⟨h.1, fun i hi => wpOpIn_of_wpOp l n hq hd (fun a w h => wpAnyIn_of_wpAny l n hq hd fuel _ a w h) (h.2 i hi)⟩
def noDefer (ops : Array Oper) : Bool := ops.all fun o => match o.op with | .defer _ => false | _ => true
theorem noDefer_spec (h : noDefer ops = true) (i : Nat) (o : Oper) (ho : ops[i]? = some o) : ∀ c, o.op ≠ .defer c := by
 intro c hc
 obtain ⟨hi, rfl⟩ := Array.getElem?_eq_some_iff.1 ho
 have := (Array.all_eq_true.1 h) i hi
 rw [hc] at this
 cases this
theorem startR_ {S : World → Prop} {ds : List Nat} {id n l m : Nat} {a : Act} {w : World} (ls : Array Bool) (hm : P.follows .mixedOrders = true) (hdf : noDefer ops = true) (hq : ¬ LetsOut Q) (hn : ops.size = n) (hl : Array.replicate n false = ls) (hS : S w.drew)
  (h : S w.drew → wpAnyLast P .any ops Q S ds n ls a w.drew) : (Code.region id ops true).wpIn (Fence.wide.inRound l) m P Q a w := by
 subst hn
 subst hl
 exact wpIn_region_any hm (wpAnyIn_of_wpAny l m hq (noDefer_spec hdf) _ _ _ _ (wpAny_of_last _ _ _ _ (h hS)))
end
theorem wpListIn_loadv {F : Fence} {n : Nat} {P : Program} {ops : Array Oper} {Q : Exit → Act → World → Prop} {rest : List Oper} {o : Oper} {a : Act} {w : World} (hg : o.guard = none) (ty : TypeId) (x : Operand) (ho : o.op = .load ty x) (ad : Addr) (hx : a.eval x = .pointer (some ad))
  (v : Value) (hl : (loadVar ty ad).run P w = .ok v w) (h : wpListIn F n P ops Q rest (a.put o.dst v) w) : wpListIn F n P ops Q (o :: rest) a w := by
 refine wpListIn_plain hg fun K hK => ?_
 unfold Oper.wpIn
 refine ⟨by simp [Oper.about, ho], ?_⟩
 rw [Oper.semAt_plain F _ _ (by rw [ho]; intro c hc'; cases hc'), show (execOp a.eval o).run P w = .ok (.value v) w from yield_load ty x ho ad hx hl]
 exact hK _ _ h
end Go.Proofs.YtanabbjakacgbaaGreatDoor.Sp
namespace Go.Proofs.YtanabbjakacgbaaGreatDoor.Sp
open Go.RowKit Go.Shelf Go.Proofs.YtanabbjakacgbaaGreatDoorW.PrintWords Go.Proofs.YtanabbjakacgbaaGreatDoorW.PrintLast Go.Proofs.YtanabbjakacgbaaGreatDoorW.PrintMore Go.Proofs.YtanabbjakacgbaaGreatDoor.PM Go.Proofs.YtanabbjakacgbaaGreatDoor.Rng
set_option linter.unusedVariables false
set_option linter.unusedSimpArgs false
set_option maxRecDepth 100000
attribute [local go_sem] Oper.semAt_some
def othersF : Nat → List It → Sm → Nat → List (List It)
 | 0, _, _, _ => []
 | k + 1, l, s, d => if endsOf l d = true then [] else halfOf l d (1 - bitI s d) :: othersF k (halfOf l d (bitI s d)) s (d + 1)
theorem othersF_end {l : List It} {d : Nat} (s : Sm) (h : endsOf l d = true) (k : Nat) : othersF k l s d = [] := by
 cases k with
 | zero => rfl
 | succ k => rw [othersF, if_pos h]
theorem othersF_go {l : List It} {d : Nat} (s : Sm) (h : endsOf l d = false) : othersF (256 - d) l s d = halfOf l d (1 - bitI s d) :: othersF (256 - (d + 1)) (halfOf l d (bitI s d)) s (d + 1) := by
 have hd := (ends_lt h).1
 rw [show 256 - d = (256 - (d + 1)) + 1 by omega, othersF, if_neg (by rw [h]; simp)]
theorem wayF_others : ∀ (k : Nat) (l : List It) (s : Sm) (d : Nat), (wayF k l s d).1.length = (othersF k l s d).length ∧ ∀ i x, (othersF k l s d)[i]? = some x → (wayF k l s d).1[i]? = some (hashOf x (d + i + 1))
 | 0, l, s, d => ⟨rfl, fun i x h => by simp [othersF] at h⟩
 | k + 1, l, s, d => by
  rw [wayF, othersF]
  by_cases h : endsOf l d = true
  ·rw [if_pos h, if_pos h]
   exact ⟨rfl, fun i x h => by simp at h⟩
  ·rw [if_neg h, if_neg h]
   have ih := wayF_others k (halfOf l d (bitI s d)) s (d + 1)
   refine ⟨by simp [ih.1], fun i x hx => ?_⟩
   cases i with
   | zero =>
    have : halfOf l d (1 - bitI s d) = x := by simpa using hx
    rw [← this]
    rfl
   | succ i =>
    have h2 := ih.2 i x (by simpa using hx)
    rw [show d + (i + 1) + 1 = d + 1 + i + 1 by omega]
    simpa using h2
theorem othersF_sm {k : Nat} : ∀ {l : List It} {s : Sm} {d : Nat}, SmI l → ∀ x ∈ othersF k l s d, SmI x := by
 induction k with
 | zero => intro l s d _ x hx; cases hx
 | succ k ih =>
  intro l s d hl x hx
  rw [othersF] at hx
  by_cases h : endsOf l d = true
  ·rw [if_pos h] at hx; cases hx
  ·rw [if_neg h] at hx
   rcases List.mem_cons.1 hx with rfl | hx
   ·exact hl.half _ _
   ·exact ih (hl.half _ _) x hx
theorem at_named {F : Fence} {n : Nat} {P : Program} {o : Oper} {a : Act} {next : Act → World → Prop} {Q : Exit → Act → World → Prop} {s : Sem Next} {W : World} (h : ∀ W1, W1 = W → o.uponIn F n P a next Q (s.run P W1)) : o.uponIn F n P a next Q (s.run P W) := h W rfl
theorem R_kept {α : Type} {d : Kd α} {e : Nat} {w w1 : World} {base : Nat} {v : Value} {xs : List α} (h : d.R e w base (fun _ => True) v xs) (hE : d.E = []) (hk : ∀ (k : Nat) (o : Obj), w.heap[k]? = some o → (∃ cells fr, o = .cells cells e fr) → w1.heap[k]? = some o) : d.R e w1 base (fun _ => True) v xs :=
 Kd.R_mono (Kd.R_step (Kd.R_bound h) (fun k hk' _ => by
  obtain ⟨_, _, _, q, hq, cells, hc⟩ := hk'
  rw [hE] at hq
  obtain rfl := List.mem_singleton.1 hq
  rw [hk k _ hc ⟨_, _, rfl⟩, hc])) (fun _ _ => trivial)
def Ew (b : Nat) (i : Nat) (x : List It) (vs : Array Value) (W : World) : Prop := ∃ v, vs = #[.int .i64 (i : Int), v] ∧ kI.R 77 W b (fun _ => True) v x
def Sw (gl gs ge gend : Nat) (k : Nat) (o : Obj) : Prop := o.isCells = true ∧ (k = gl ∨ k = gs ∨ k = ge ∨ k = gend ∨ ∃ cells fr, o = .cells cells 77 fr)
def Tw (gl gend : Nat) (k : Nat) : Prop := k = gl ∨ k = gend
set_option maxHeartbeats 1000000 in
theorem way_gives (n : Nat) (hn : 1 ≤ n) (gl gs ge gend : Nat) (h1 : gl ≠ gs) (h2 : gl ≠ ge) (h3 : gl ≠ gend) (h4 : gend ≠ gs) (h5 : gend ≠ ge) (L : List It) (s : Sm) (A0 : Option Addr) (c0 : Nat) (w : World) (hL : SmI L)
  (hxl : Boxed w gl 69 (.slice A0 L.length c0)) (hr : kI.R 77 w 0 (fun _ => True) (.slice A0 L.length c0) L) (hxs : w.heap[gs]? = some (.cells (cS s) 30 (0, 0))) (hxe : Boxed w ge 75 (.pointer (some ⟨gend, 0, none⟩))) (v0 : Value) (hxd : Boxed w gend 69 v0) :
  Gives2 Fence.wide n Tryz.prog 63 #[.pointer (some ⟨gl, 0, none⟩), .pointer (some ⟨gs, 0, none⟩),   .pointer (some ⟨ge, 0, none⟩)] (Ew w.heap.size) (Sw gl gs ge gend) (Tw gl gend) (othersF 256 L s 0) (fun W => ∃ v, Boxed W gend 69 v ∧ kI.R 77 W 0 (fun _ => True) v (wayOf L s).2) w := by
 intro l J W hS hsz hJ hY h0
 have hlW : Boxed W gl 69 (.slice A0 L.length c0) := hS gl _ hxl ⟨rfl, .inl rfl⟩
 have hsW := hS gs _ hxs ⟨rfl, .inr (.inl rfl)⟩
 have heW : Boxed W ge 75 (.pointer (some ⟨gend, 0, none⟩)) := hS ge _ hxe ⟨rfl, .inr (.inr (.inl rfl))⟩
 have hdW : Boxed W gend 69 v0 := hS gend _ hxd ⟨rfl, .inr (.inr (.inr (.inl rfl)))⟩
 have hrW : kI.R 77 W 0 (fun _ => True) (.slice A0 L.length c0) L := R_kept hr rfl (fun k o hk hc => hS k o hk (by obtain ⟨cells, fr, rfl⟩ := hc; exact ⟨rfl, .inr (.inr (.inr (.inr ⟨_, _, rfl⟩)))⟩))
 have HIN := Aside0.mk (⟨hlW, hsW, heW, ⟨v0, hdW⟩, hrW, hL⟩ : _ ∧ _ ∧ _ ∧ (∃ v0, Boxed W gend 69 v0) ∧ _ ∧ _)
 have HNE := Aside0.mk (⟨h1, h2, h3, h4, h5⟩ : _ ∧ _ ∧ _ ∧ _ ∧ _)
 have HJ := Aside0.mk hJ
 have HY := Aside0.mk hY
 have HSZ := Aside0.mk hsz
 clear hlW hsW heW hdW hrW hxl hr hxs hxe hxd hS hL h1 h2 h3 h4 h5 hJ hY hsz
 obtain ⟨O, hO⟩ : ∃ O, O = othersF 256 L s 0 := ⟨_, rfl⟩
 obtain ⟨E, hE⟩ : ∃ E, E = (wayOf L s).2 := ⟨_, rfl⟩
 rw [← hO] at HY ⊢
 rw [← hE]
 have HO := Aside0.mk (And.intro hO hE)
 clear hO hE
 refine callsIn_of_wp Tryz.func63 rfl trivial ?_ rfl
 simp only [Tryz.ntmps63, List.size_toArray, List.length_cons, List.length_nil, Nat.reduceAdd, Nat.reduceSub, Array.replicate_succ, Array.replicate_zero, List.push_toArray, List.append_toArray, List.nil_append, List.cons_append]
 gi_wp2
 gi_loopw [5, 6] (fun i v6 wr => ∃ (d : Nat) (M : List It) (A3 : Option Addr) (c3 : Nat), i = .int .i64 (d : Int) ∧ d ≤ 256 ∧ Aside0 (SmI M ∧ d ≤ O.length ∧ O.drop d = othersF (256 - d) M s d ∧ E = (wayF (256 - d) M s d).2) ∧ Aside0 (w.heap.size ≤ wr.heap.size) ∧
  Aside0 (Boxed wr gl 69 (.slice A3 M.length c3) ∧ kI.R 77 wr 0 (fun _ => True) (.slice A3 M.length c3) M ∧ wr.heap[gs]? = some (.cells (cS s) 30 (0, 0)) ∧ Boxed wr ge 75 (.pointer (some ⟨gend, 0, none⟩)) ∧ (∃ v0, Boxed wr gend 69 v0) ∧ J d wr)) (fun i _ _ => 257 - (intOf i).toNat)
 case atStart => exact ⟨0, L, A0, c0, rfl, by omega, ⟨HIN.out.2.2.2.2.2, by omega, by rw [List.drop_zero]; exact HO.out.1, HO.out.2⟩, HSZ, ⟨HIN.out.1, HIN.out.2.2.2.2.1, HIN.out.2.1, HIN.out.2.2.1, HIN.out.2.2.2.1, h0⟩⟩
 case round =>
  clear HIN h0
  obtain ⟨d, M, A3, c3, rfl, hd, HM, HZ, HR⟩ := hrel
  have hcl := HR.out.1.cell
  by_cases hen : endsOf M d = true
  ·gi_wp2
   refine ⟨trivial, (callsIn_wide.2 (endsm_calls M d hd A3 c3 wr)).mono ?_⟩
   rw [hen]
   rintro e w1 ⟨rfl, e1⟩
   rw [e1]
   clear e1
   obtain ⟨v9, hv9⟩ := HR.out.2.2.2.2.1
   have hce := HR.out.2.2.2.1.cell
   have hcd := hv9.cell
   have hfd := hv9.frozen
   gi_wp2
   go_end0
   have hOl := HM.out.2.2.1
   rw [othersF_end s hen] at hOl
   have hOd : O.length = d := by have h1 := List.drop_eq_nil_iff.1 hOl; have h2 := HM.out.2.1; omega
   have hEM : E = M := by rw [HM.out.2.2.2, wayF_end s hen]
   refine ⟨⟨_, rfl⟩, ?_, .slice A3 M.length c3, Boxed.set _ hv9, ?_⟩
   ·rw [hOd]
    exact HJ.out d wr _ HR.out.2.2.2.2.2 (Turns.setCell (T := Tw gl gend) (p := ⟨gend, 0, none⟩) (.inr rfl) wr _)
   ·rw [hEM]
    exact Kd.R_set HR.out.2.1 hv9 (by decide) 0 _
  ·have hen0 : endsOf M d = false := by simpa using hen
   obtain ⟨hd1, _⟩ := ends_lt hen0
   have hwg := wayF_go s hen0
   have hog := othersF_go s hen0
   obtain ⟨β, hβ⟩ : ∃ β, bitI s d = β := ⟨_, rfl⟩
   obtain ⟨γ, hγ⟩ : ∃ γ, 1 - β = γ := ⟨_, rfl⟩
   have K5 : wrap64 (1 - β) = γ := by rw [← hγ]; rcases bitI_01 s d with h | h <;> rw [hβ] at h <;> rw [h] <;> unfold wrap64 <;> omega
   rw [hβ, hγ] at hwg hog
   obtain ⟨M0, hM0⟩ : ∃ x, halfOf M d γ = x := ⟨_, rfl⟩
   obtain ⟨M1, hM1⟩ : ∃ x, halfOf M d β = x := ⟨_, rfl⟩
   rw [hM0, hM1] at hwg
   rw [hM0, hM1] at hog
   have HS1 := Aside0.mk (show SmI M1 by rw [← hM1]; exact HM.out.1.half d β)
   have HH := Aside0.mk (⟨hM0, hM1, hβ, hwg, hog⟩ : _ ∧ _ ∧ _ ∧ _ ∧ _)
   have HOd : Aside0 (O[d]? = some M0 ∧ O.drop (d + 1) = othersF (256 - (d + 1)) M1 s (d + 1) ∧ d + 1 ≤ O.length) := ⟨by
    have h := HM.out.2.2.1
    rw [hog] at h
    have hl : d < O.length := by
     rcases Nat.lt_or_ge d O.length with h' | h'
     ·exact h'
     ·rw [List.drop_of_length_le h'] at h; cases h
    rw [List.drop_eq_getElem_cons hl] at h
    injection h with e1 e2
    exact ⟨by rw [List.getElem?_eq_getElem hl, e1], e2, hl⟩⟩
   clear hM0 hM1 hwg hβ hγ hog
   have hml := HM.out.1.1
   have hls : (loadVar 30 ⟨gs, 0, none⟩).run Tryz.prog wr = .ok (.agg (cS s)) wr := ld_S HR.out.2.2.1 0
   have HRC := Aside0.mk (R_C HR.out.2.1)
   gi_wp2
   refine ⟨trivial, (callsIn_wide.2 (endsm_calls M d hd A3 c3 wr)).mono ?_⟩
   rw [hen0]
   rintro e w1 ⟨rfl, e1⟩
   rw [e1]
   clear e1 w1
   gi_wp2_with (refine wpListIn_loadv rfl 30 _ rfl _ rfl _ hls ?_)
   refine ⟨trivial, (callsIn_wide.2 (bitm_calls s d hd1 wr)).mono ?_⟩
   rw [HH.out.2.2.1]
   rintro e w2 ⟨rfl, hb2⟩
   have H2 := Aside0.mk hb2
   have hcl2 := (show Boxed w2 gl 69 (.slice A3 M.length c3) from (hb2.block gl HR.out.1.lt).trans HR.out.1).cell
   clear hb2 hls hcl
   gi_wp2
   refine ⟨trivial, (callsIn_wide.2 (halfm_calls M d hd1 γ A3 c3 w2 (Kd.C_below HRC.out.2.2 H2.out) HRC.out.2.1 hml)).mono ?_⟩
   rw [HH.out.1]
   rintro e w3 ⟨v3, rfl, hv3, hb3⟩
   have hb9 := H2.out.trans (hb3.mono H2.out.size)
   have hz9 := hb9.size
   have H3 := Aside0.mk (⟨Kd.R_lower (base' := w.heap.size) hv3 (Nat.le_trans HZ.out H2.out.size), hb9⟩ : _ ∧ _)
   clear hb3 hv3 hcl2
   gi_wp2
   refine at_named (fun W1 hW1 => ?_)
   subst hW1
   have hJ3 : J d W1 := HJ.out d wr W1 HR.out.2.2.2.2.2 (Turns.of_below hb9 (Nat.le_refl _))
   obtain ⟨fn, tmps, assign, body, hy, hR⟩ := HY.out d M0 #[.int .i64 d, v3] W1 HOd.out.1 hJ3 ⟨v3, rfl, H3.out.1⟩
   rw [hy, Oper.uponIn_round]
   refine ⟨fun _ => hn, hR.mono ?_⟩
   rintro e W3 ⟨rfl, hJ4, hsz3, hS3⟩
   have HZ9 : Aside0 (wr.heap.size ≤ W3.heap.size) := ⟨Nat.le_trans hz9 hsz3⟩
   have hlt := HR.out.1.lt
   have hl3 : Boxed W3 gl 69 (.slice A3 M.length c3) := hS3 gl _ ((hb9.block gl HR.out.1.lt).trans HR.out.1) ⟨rfl, .inl rfl⟩
   have hs3 := hS3 gs _ ((hb9.block gs (Array.getElem?_eq_some_iff.1 HR.out.2.2.1).1).trans HR.out.2.2.1) ⟨rfl, .inr (.inl rfl)⟩
   have he3 : Boxed W3 ge 75 (.pointer (some ⟨gend, 0, none⟩)) := hS3 ge _ ((hb9.block ge HR.out.2.2.2.1.lt).trans HR.out.2.2.2.1) ⟨rfl, .inr (.inr (.inl rfl))⟩
   obtain ⟨v9, hv9⟩ := HR.out.2.2.2.2.1
   have hd3 : Boxed W3 gend 69 v9 := hS3 gend _ ((hb9.block gend hv9.lt).trans hv9) ⟨rfl, .inr (.inr (.inr (.inl rfl)))⟩
   have hM3 : kI.R 77 W3 0 (fun _ => True) (.slice A3 M.length c3) M := R_kept (Kd.R_below HR.out.2.1 hb9) rfl (fun k o hk hc => hS3 k o hk (by obtain ⟨cells, fr, rfl⟩ := hc; exact ⟨rfl, .inr (.inr (.inr (.inr ⟨_, _, rfl⟩)))⟩))
   have hcl3 := hl3.cell
   clear hS3 hy hR hv9 hb9 hJ3 H3 H2
   have H5 := Aside0.mk (⟨hl3, hs3, he3, hd3, hM3, hJ4⟩ : _ ∧ _ ∧ _ ∧ _ ∧ _ ∧ _)
   clear hl3 hs3 he3 hd3 hM3 hJ4
   gi_wp2
   refine ⟨trivial, (callsIn_wide.2 (halfm_calls M d hd1 β A3 c3 W3 (R_C H5.out.2.2.2.2.1).2.2 HRC.out.2.1 hml)).mono ?_⟩
   rw [HH.out.2.1]
   rintro e W4 ⟨v4, rfl, hv4, hb4⟩
   obtain ⟨A4, c4, rfl, _, _⟩ := Kd.R_reads hv4
   have hl4 : Boxed W4 gl 69 (.slice A3 M.length c3) := (hb4.block gl H5.out.1.lt).trans H5.out.1
   have hcl4 := hl4.cell
   have hfl4 := hl4.frozen
   have H6 := Aside0.mk (⟨hl4, Kd.R_lower (base' := 0) hv4 (Nat.zero_le _), hb4⟩ : _ ∧ _ ∧ _)
   clear hl4 hv4 hb4 hcl3
   gi_wp2
   go_roundw
   case rel =>
    have hb4 := H6.out.2.2
    have hl4 := H6.out.1
    have hne := HNE.out
    have k1 : ∀ k, k ≠ gl → (W4.setCell ⟨gl, 0, none⟩ (.slice A4 M1.length c4)).heap[k]? = W4.heap[k]? := fun k hk => heap_setCell_ne hk
    exact ⟨d + 1, M1, A4, c4, by simp, hd1, ⟨HS1.out, HOd.out.2.2, HOd.out.2.1, by rw [HM.out.2.2.2, HH.out.2.2.2.1]⟩, ⟨by show w.heap.size ≤ (W4.heap.modify _ _).size; rw [Array.size_modify]; have := HZ.out; have := HZ9.out; have := hb4.size; omega⟩,
     ⟨Boxed.set _ hl4, Kd.R_set H6.out.2.1 hl4 (by decide) 0 _, (k1 gs (Ne.symm hne.1)).trans ((hb4.block gs (Array.getElem?_eq_some_iff.1 H5.out.2.1).1).trans H5.out.2.1), (k1 ge (Ne.symm hne.2.1)).trans ((hb4.block ge H5.out.2.2.1.lt).trans H5.out.2.2.1),
      ⟨v9, (k1 gend (Ne.symm hne.2.2.1)).trans ((hb4.block gend H5.out.2.2.2.1.lt).trans H5.out.2.2.2.1)⟩,
      HJ.out (d + 1) W3 _ H5.out.2.2.2.2.2 ((Turns.of_below hb4 (Nat.le_refl _)).trans (Turns.setCell (T := Tw gl gend) (p := ⟨gl, 0, none⟩) (.inl rfl) W4 _))⟩⟩
   case measure => simp [intOf]; omega
end Go.Proofs.YtanabbjakacgbaaGreatDoor.Sp
namespace Go.Proofs.YtanabbjakacgbaaGreatDoor.Sp
open Go.RowKit Go.Shelf Go.Proofs.YtanabbjakacgbaaGreatDoorW.PrintWords Go.Proofs.YtanabbjakacgbaaGreatDoorW.PrintLast Go.Proofs.YtanabbjakacgbaaGreatDoorW.PrintMore Go.Proofs.YtanabbjakacgbaaGreatDoor.PM Go.Proofs.YtanabbjakacgbaaGreatDoor.Rng
set_option linter.unusedVariables false
set_option linter.unusedSimpArgs false
set_option maxRecDepth 100000
structure WayAt (w w' : World) (gl gs ge gend : Nat) (sv : Value) (s : Sm) : Prop where
 l0 : w.heap.size ≤ gl
 s0 : w.heap.size ≤ gs
 e0 : w.heap.size ≤ ge
 ls : gl ≠ gs
 le : gl ≠ ge
 bl : Boxed w' gl 69 sv
 bs : w'.heap[gs]? = some (.cells (cS s) 30 (0, 0))
 be : Boxed w' ge 75 (.pointer (some ⟨gend, 0, none⟩))
 below : Below w.heap.size w w'
set_option maxHeartbeats 1000000 in
theorem way_calls (A0 : Option Addr) (n0 c0 : Nat) (k : ByteArray) (hk1 : k.size ≤ 100000) (gend : Nat) (w : World) (hW : Words w) :
  Calls Tryz.prog 37 #[.slice A0 n0 c0, .string k, .pointer (some ⟨gend, 0, none⟩)] w fun e w' => ∃ gl gs ge, e = .returned (.func (.func 63) #[] #[.pointer (some ⟨gl, 0, none⟩), .pointer (some ⟨gs, 0, none⟩), .pointer (some ⟨ge, 0, none⟩)]) ∧ WayAt w w' gl gs ge gend (.slice A0 n0 c0) (hk k) := by
 obtain ⟨g, hg⟩ : ∃ g, g = w.heap.size := ⟨_, rfl⟩
 obtain ⟨wb, hwb⟩ : ∃ wb, wb = (w.alloc (.cells #[.slice A0 n0 c0] 69)).alloc (.cells #[.pointer (some ⟨gend, 0, none⟩)] 75) := ⟨_, rfl⟩
 have h0 : Boxed wb g 69 (.slice A0 n0 c0) := by rw [hwb]; exact (h_old (by rw [size_alloc]; omega)).trans (h_new hg)
 have h1 : Boxed wb (g + 1) 75 (.pointer (some ⟨gend, 0, none⟩)) := by rw [hwb]; exact h_new (by rw [size_alloc, hg])
 have hb : Below w.heap.size w wb := by rw [hwb]; exact below_alloc (below_alloc (Below.refl _ _) _) _
 have hs : wb.heap.size = g + 2 := by rw [hwb, size_alloc, size_alloc, hg]
 have HB := Aside0.mk (⟨h0, h1, hb, hs, hW.below hb, hg⟩ : _ ∧ _ ∧ _ ∧ _ ∧ _ ∧ _)
 have HWB := Aside0.mk hwb.symm
 clear h0 h1 hb hs hwb hW
 have HG := Aside0.mk hg
 clear hg
 obtain ⟨s, hs⟩ : ∃ s, hk k = s := ⟨_, rfl⟩
 rw [hs]
 have HS := Aside0.mk hs
 clear hs
 go_enter Tryz.func37, Tryz.ntmps37
 go_wp2_with (first
  | ((with_reducible refine gate_dst (N := 9) rfl ?_); rw [HWB.out, ← HG.out]; (refine wpList_str rfl (.tmp 8) rfl k rfl Tryz.underlying9 Tryz.underlying53 Tryz.underlying5 ?_))
  | (go_at_call 62; (refine (sumKm_calls k (by omega) wb HB.out.2.2.2.2.1).mono ?_); rw [HS.out]; rintro e w2 ⟨rfl, hb2⟩; have hb3 := below_tr (bytes_below' wb k) hb2 (bytes_below' wb k).size; have H2 := Aside0.mk hb3; clear hb2 hb3)
  | ((with_reducible refine gate_store (t := 30) rfl ?_); (refine at_world (w' := w2.alloc (.cells (cS zS) 30)) (zw w2).symm ?_); (refine wpList_store_row rfl 30 (.tmp 7) (.tmp 10) rfl w2.heap.size (cS s) rfl rfl 30 (cS zS) (h_new rfl) ?g3 ?g4 (encI_one _) ?_); (case g3 => rw [cS_size]; kernel_rfl); (case g4 => rw [cS_size, cS_size])))
 go_ret
 have hz2 := H2.out.size
 have hz := HB.out.2.2.2.1
 refine ⟨g, w2.heap.size, g + 1, rfl, ⟨by have := HG.out; omega, by have := HG.out; omega, by have := HG.out; omega, by omega, by omega, ?_, setRow_heap _ _ _ _ _ _ (h_new rfl), ?_, ?_⟩⟩
 ·exact (setRow_other _ _ _ _ (by omega)).trans ((h_old (by omega)).trans ((H2.out.block g (by omega)).trans HB.out.1))
 ·exact (setRow_other _ _ _ _ (by omega)).trans ((h_old (by omega)).trans ((H2.out.block (g + 1) (by omega)).trans HB.out.2.1))
 ·exact below_setRow (below_alloc (HB.out.2.2.1.trans (H2.out.mono (by have := HG.out; omega))) _) (by have := HG.out; omega)
end Go.Proofs.YtanabbjakacgbaaGreatDoor.Sp
namespace Go.Proofs.YtanabbjakacgbaaGreatDoor.Sp
open Go.RowKit Go.Shelf Go.Proofs.YtanabbjakacgbaaGreatDoorW.PrintWords Go.Proofs.YtanabbjakacgbaaGreatDoorW.PrintLast Go.Proofs.YtanabbjakacgbaaGreatDoorW.PrintMore Go.Proofs.YtanabbjakacgbaaGreatDoor.PM Go.Proofs.YtanabbjakacgbaaGreatDoor.Rng
set_option linter.unusedVariables false
set_option linter.unusedSimpArgs false
set_option maxRecDepth 100000
theorem R_aside {α : Type} {d : Kd α} {e : Nat} {A B : World} {base b : Nat} {ok : Nat → Prop} {v : Value} {xs : List α} {T : Nat → Prop} (h : d.R e A base ok v xs) (hs : Rng.Aside T b A B) (hT : ∀ k, T k → k < base) : d.R e B base ok v xs :=
 Kd.R_mono (Kd.R_move (Kd.R_bound h) (fun k hk => hs.same k hk.2.2.1 (fun h' => h'.elim (fun ht => by have := hT k ht; omega) (fun h2 => by
  obtain ⟨_, o, ho, hc⟩ := h2
  obtain ⟨q, _, cells, hcell⟩ := hk.2.2.2
  rw [hcell] at ho; cases ho; cases hc)))) (fun _ hk => hk.1)
def markOf (D : Nat) : Deferred := { target := .collected D, args := #[] }
theorem leaves_marks {F : Fence} {n : Nat} {P : Program} {fn : Func} {tmps : Array Value} {R : Ending → World → Prop} (b : Nat) : ∀ (DM : List Nat) (w : World), DM.Nodup → (∀ D ∈ DM, b ≤ D ∧ w.heap[D]? = some (.deferred (some []))) →
  (∀ w', (∀ k, ¬ k ∈ DM → w'.heap[k]? = w.heap[k]?) → w'.heap.size = w.heap.size → w'.os = w.os → w'.tape = w.tape → w'.output = w.output → LeavesIn F n P fn tmps R [] .returning w') → LeavesInM F n P fn tmps R (DM.map markOf) .returning w
 | [], w, _, _, h => h w (fun _ _ => rfl) rfl rfl rfl rfl
 | D :: DM, w, hn, hm, h => by
  rw [List.nodup_cons] at hn
  refine ⟨by simp, .inl ⟨D, _, rfl, run_takeDeferred (hm D List.mem_cons_self).2, ?_⟩⟩
  refine leaves_marks b DM _ hn.2 (fun D' hD' => ⟨(hm D' (List.mem_cons_of_mem _ hD')).1, ?_⟩) (fun w' h1 h2 h3 h4 h5 => ?_)
  ·rw [World.putObj_heap_other (fun e => hn.1 (by first | (rw [← e]; exact hD') | (rw [e]; exact hD')))]
   exact (hm D' (List.mem_cons_of_mem _ hD')).2
  ·refine h w' (fun k hk => ?_) (h2.trans (by simp)) h3 h4 h5
   rw [List.mem_cons, not_or] at hk
   rw [h1 k hk.2, World.putObj_heap_other hk.1]
theorem wpListIn_store_row {F : Fence} {n : Nat} {P : Program} {ops : Array Oper} {Q : Exit → Act → World → Prop} {rest : List Oper} {o : Oper} {a : Act} {w : World} (hg : o.guard = none) (ty : TypeId) (x y : Operand) (ho : o.op = .store ty x y)
  (g : Nat) (cells : Array Value) (hx : a.eval x = .pointer (some ⟨g, 0, none⟩)) (hy : a.eval y = .agg cells) (t : TypeId) (old : Array Value) (hgr : w.heap[g]? = some (.cells old t (0, 0))) (hi : (P.info? ty).map (·.size) = some cells.size) (hold : old.size = cells.size) (h1 : cells.all (·.oneCell') = true)
  (h : wpListIn F n P ops Q rest (a.put o.dst undef) (w.setRow g cells)) : wpListIn F n P ops Q (o :: rest) a w := by
 refine wpListIn_plain hg fun K hK => ?_
 unfold Oper.wpIn
 refine ⟨by simp [Oper.about, ho], ?_⟩
 have hrun : (execOp a.eval o).run P w = .ok .skip (w.setRow g cells) := by
  unfold execOp
  simp only [ho, hx, hy, Instr.storeAt, Instr.sureAddr, Sem.run_bind, Sem.run_pure, Result.andThen_ok, run_storeVar_row w g t ty old cells hgr hi hold h1]
 rw [Oper.semAt_plain F _ _ (by rw [ho]; intro c hc'; cases hc'), hrun]
 exact hK _ _ h
end Go.Proofs.YtanabbjakacgbaaGreatDoor.Sp
namespace Go.Proofs.YtanabbjakacgbaaGreatDoor.Sp
open Go.RowKit Go.Shelf Go.Proofs.YtanabbjakacgbaaGreatDoorW.PrintWords Go.Proofs.YtanabbjakacgbaaGreatDoorW.PrintLast Go.Proofs.YtanabbjakacgbaaGreatDoorW.PrintMore Go.Proofs.YtanabbjakacgbaaGreatDoor.PM Go.Proofs.YtanabbjakacgbaaGreatDoor.Rng
set_option linter.unusedVariables false
set_option linter.unusedSimpArgs false
set_option maxRecDepth 100000
attribute [local go_sem] Oper.semAt_some
theorem callsIn_world {F : Fence} {n : Nat} {P : Program} {f : FuncId} {args : Array Value} {w w' : World} {R : Ending → World → Prop} (h : w = w') (H : CallsIn F n P f args w' R) : CallsIn F n P f args w R := by rw [h]; exact H
theorem take_step {α : Type} {l : List α} {i : Nat} {x : α} (h : l[i]? = some x) : l.take (i + 1) = l.take i ++ [x] := by
 rw [List.take_add_one, h]; rfl
theorem othersF_len : ∀ (k : Nat) (l : List It) (s : Sm) (d : Nat), (othersF k l s d).length ≤ k
 | 0, l, s, d => by rw [othersF]; exact Nat.le_refl _
 | k + 1, l, s, d => by
  rw [othersF]
  by_cases h : endsOf l d = true
  ·rw [if_pos h]; exact Nat.zero_le _
  ·rw [if_neg h, List.length_cons]
   have := othersF_len k (halfOf l d (bitI s d)) s (d + 1)
   omega
structure ProveI (w : World) (g B : Nat) (PA : List Sm) (i : Nat) (W : World) (v : Value) : Prop where
 own : kS.R 30 W B (fun _ => True) v (PA.take i)
 p : W.heap[g + 1]? = some (.cells (cP v 0 zL) 34 (0, 0))
 r : W.heap[g]? = some (.cells (cP (.slice none 0 0) 0 zL) 34 (0, 0))
 below : Below w.heap.size w W
 size : B ≤ W.heap.size
theorem ProveI.aside {w A C : World} {g B gl gend : Nat} {PA : List Sm} {i : Nat} {v : Value} (h : ProveI w g B PA i A v) (hs : Rng.Aside (Tw gl gend) B A C) (h1 : g + 1 < gl) (h2 : g + 1 < gend) (h3 : gl < B) (h4 : gend < B) (h5 : w.heap.size ≤ g) : ProveI w g B PA i C v := by
 have hT : ∀ k, Tw gl gend k → k < B := fun k hk => by rcases hk with rfl | rfl <;> assumption
 have key : ∀ k, k ≤ g + 1 → k < A.heap.size → C.heap[k]? = A.heap[k]? := fun k hk hlt => hs.same k hlt (fun h' => by
  rcases h' with (rfl | rfl) | ⟨h6, _⟩ <;> omega)
 have hz := h.size
 refine ⟨R_aside h.own hs hT, (key _ (by omega) (Array.getElem?_eq_some_iff.1 h.p).1).trans h.p, (key _ (by omega) (Array.getElem?_eq_some_iff.1 h.r).1).trans h.r, ?_, Nat.le_trans h.size hs.size⟩
 exact ⟨hs.os.trans h.below.os, hs.tape.trans h.below.tape, hs.output.trans h.below.output, Nat.le_trans h.below.size hs.size, fun k hk => (key k (by omega) (by have := h.below.size; omega)).trans (h.below.block k hk)⟩
set_option maxHeartbeats 1000000 in
theorem Provem_calls (l : List Lf) (k : ByteArray) (A : Option Addr) (c : Nat) (w : World) (hW : Words w) (hr : kL.C w A l.length l) (hc : l.length ≤ c) (hl : SmL l) (hk1 : k.size ≤ 100000) :
  Calls Tryz.prog 13 #[.slice A l.length c, .string k] w fun e w' => ∃ A' c', e = .returned (.agg (cP (.slice A' (proveOf l k).p.length c') (proveOf l k).e (proveOf l k).l)) ∧ kS.C w' A' (proveOf l k).p.length (proveOf l k).p ∧ (proveOf l k).p.length ≤ c' ∧ Below w.heap.size w w' := by
 have hu36 := Tryz.underlying34
 obtain ⟨g, hg⟩ : ∃ g, g = w.heap.size := ⟨_, rfl⟩
 obtain ⟨wb, hwb⟩ : ∃ wb, ((w.alloc (.cells (cP (.slice none 0 0) 0 zL) 34)).alloc (.cells (cP (.slice none 0 0) 0 zL) 34)).alloc (.cells #[.slice none 0 0] 69) = wb := ⟨_, rfl⟩
 have h0 : wb.heap[g]? = some (.cells (cP (.slice none 0 0) 0 zL) 34 (0, 0)) := by rw [← hwb, h_old (by simp only [size_alloc]; omega), h_old (by simp only [size_alloc]; omega)]; exact h_new hg
 have h1 : wb.heap[g + 1]? = some (.cells (cP (.slice none 0 0) 0 zL) 34 (0, 0)) := by rw [← hwb, h_old (by simp only [size_alloc]; omega)]; exact h_new (by rw [size_alloc, hg])
 have h2 : Boxed wb (g + 2) 69 (.slice none 0 0) := by rw [← hwb]; exact h_new (by rw [size_alloc, size_alloc, hg])
 have hb : Below w.heap.size w wb := by rw [← hwb]; exact below_alloc (below_alloc (below_alloc (Below.refl _ _) _) _) _
 have HW0 := Aside0.mk hW
 have hs : wb.heap.size = g + 3 := by rw [← hwb, size_alloc, size_alloc, size_alloc, hg]
 have HB := Aside0.mk (⟨h0, h1, h2, hb, hs, Kd.C_below hr hb, hW.below hb⟩ : _ ∧ _ ∧ _ ∧ _ ∧ _ ∧ _ ∧ _)
 have HWB := Aside0.mk hwb
 clear h0 h1 h2 hb hs hwb hr hW
 have HG := Aside0.mk hg
 clear hg
 have HL := Aside0.mk hl
 clear hl
 obtain ⟨L, hL⟩ : ∃ L, L = itemsOf l := ⟨_, rfl⟩
 obtain ⟨s, hs⟩ : ∃ s, hk k = s := ⟨_, rfl⟩
 have HE := Aside0.mk (And.intro hL hs)
 have HLS := Aside0.mk (show SmI L by rw [hL]; exact HL.out.items)
 clear hL hs
 refine (callsIn_wide (n := 4)).1 ?_
 refine callsIn_of_wp_marks Tryz.func13 rfl trivial ?_ rfl
 simp only [Tryz.ntmps13, List.size_toArray, List.length_cons, List.length_nil, Nat.reduceAdd, Nat.reduceSub, Array.replicate_succ, Array.replicate_zero, List.push_toArray, List.append_toArray, List.nil_append, List.cons_append]
 gi_wp2
 rw [← HG.out]
 refine ⟨trivial, callsIn_world (w' := wb) HWB.out ?_⟩
 refine (callsIn_wide.2 (itemsm_calls l A c wb HB.out.2.2.2.2.2.2 HB.out.2.2.2.2.2.1 hc HL.out.small)).mono ?_
 rw [← HE.out.1]
 rintro e w1 ⟨v1, rfl, hv1, hb1⟩
 obtain ⟨A1, c1, rfl, hc1, _⟩ := Kd.R_reads hv1
 have H1 := Aside0.mk (⟨hv1, hb1, HB.out.2.2.2.2.2.2.below hb1⟩ : _ ∧ _ ∧ _)
 clear hv1 hb1
 gi_wp2
 refine ⟨trivial, (callsIn_wide.2 (way_calls A1 L.length c1 k hk1 (g + 2) w1 H1.out.2.2)).mono ?_⟩
 rw [HE.out.2]
 rintro e w2 ⟨gl, gs, ge, rfl, hway⟩
 have HWY := Aside0.mk hway
 clear hway
 gi_wp2
 have hz1 := H1.out.2.1.size
 have hzb := HB.out.2.2.2.2.1
 have hl0 := HWY.out.l0
 have hs0 := HWY.out.s0
 have he0 := HWY.out.e0
 have hlt := HWY.out.bl.lt
 have hB2 : Below (g + 3) wb w2 := (H1.out.2.1.mono (by omega)).trans (HWY.out.below.mono (by omega))
 have hend : Boxed w2 (g + 2) 69 (.slice none 0 0) := (hB2.block _ (by omega)).trans HB.out.2.2.1
 have hL2 : kI.R 77 w2 0 (fun _ => True) (.slice A1 L.length c1) L := Kd.R_lower (Kd.R_below H1.out.1 HWY.out.below) (Nat.zero_le _)
 have hgv := way_gives 3 (by omega) gl gs ge (g + 2) HWY.out.ls HWY.out.le (by omega) (by omega) (by omega) L s A1 c1 w2 HLS.out HWY.out.bl hL2 HWY.out.bs HWY.out.be _ hend
 obtain ⟨PA, hPA⟩ : ∃ PA, PA = (wayOf L s).1 := ⟨_, rfl⟩
 obtain ⟨O, hO⟩ : ∃ O, O = othersF 256 L s 0 := ⟨_, rfl⟩
 have hPO : PA.length = O.length ∧ (∀ i x, O[i]? = some x → PA[i]? = some (hashOf x (i + 1))) ∧ (∀ x ∈ O, SmI x) ∧ O.length ≤ 256 := by
  have h := wayF_others 256 L s 0
  rw [hPA, hO]
  exact ⟨h.1, fun i x hx => by have := h.2 i x hx; rwa [Nat.zero_add] at this, fun x hx => othersF_sm HLS.out x hx, othersF_len 256 L s 0⟩
 rw [← hO] at hgv
 have HPO := Aside0.mk hPO
 have HPA := Aside0.mk hPA
 clear hPO hO hPA
 have hW2 : Words w2 := H1.out.2.2.below HWY.out.below
 have hI0 : ProveI w g w2.heap.size PA 0 w2 (.slice none 0 0) := ⟨by rw [List.take_zero]; exact Kd.R_nil _ _ _ _ _, (hB2.block _ (by omega)).trans HB.out.2.1, (hB2.block _ (by omega)).trans HB.out.1, HB.out.2.2.2.1.trans (hB2.mono (by have := HG.out; omega)), Nat.le_refl _⟩
 have hgw := HG.out
 have hge : w.heap.size ≤ g := by omega
 have hg1 : g + 1 < gl := by omega
 clear hgw
 refine rangeOver2 (F := Fence.wide) rfl (by omega) (gf := 63) (lb := #[.pointer (some ⟨gl, 0, none⟩), .pointer (some ⟨gs, 0, none⟩), .pointer (some ⟨ge, 0, none⟩)]) rfl trivial (enters_ Tryz.func63 (by kernel_rfl) rfl) (E := Ew w2.heap.size) (S := Sw gl gs ge (g + 2)) (T := Tw gl (g + 2)) (xs := O) (Post := fun W => ∃ v, Boxed W (g + 2) 69 v ∧ kI.R 77 W 0 (fun _ => True) v (wayOf L s).2) hgv
  (fun k o h => h.1) (fun k hk => by rcases hk with rfl | rfl <;> omega) (fun i x vs W hv => by obtain ⟨v, rfl, _⟩ := hv; rfl)
  (fun i W => ∃ v, ProveI w g w2.heap.size PA i W v) ?hI ⟨_, hI0⟩
  (fun i x a' W => ∃ v, kI.R 77 W w2.heap.size (fun _ => True) v x ∧ a' = { tmps := #[.slice A l.length c, .string k, undef, undef, .pointer (some ⟨g, 0, none⟩), .pointer (some ⟨g + 1, 0, none⟩), .pointer (some ⟨g + 2, 0, none⟩), .int .i64 (i : Int), v, .slice A l.length c, .slice A1 L.length c1, .string k, .func (.func 63) #[] #[.pointer (some ⟨gl, 0, none⟩), .pointer (some ⟨gs, 0, none⟩), .pointer (some ⟨ge, 0, none⟩)], .int .i64 (i : Int), v, undef, undef, undef, undef, undef, undef, undef, undef, undef, undef, undef, undef, undef, undef, undef, undef, undef, undef, undef, undef, undef, undef, undef, undef, undef, undef], defers := [] })
  ?hAx ?hassign ?hbody ?hdone
 case hI =>
  rintro i X Y ⟨v, h⟩ hs
  exact ⟨v, h.aside hs hg1 (by omega) hlt (by omega) hge⟩
 case hAx =>
  rintro i x a' X Y ⟨v, hv, rfl⟩ hs
  exact ⟨v, R_aside hv hs (fun k hk => by rcases hk with rfl | rfl <;> omega), rfl⟩
 case hassign =>
  rintro lp i x vs W K hx ⟨v, hv⟩ ⟨u, rfl, hu⟩ hsz hK
  simp only [List.zip_toArray, List.zip_cons_cons, List.zip_nil_right, List.foldl_toArray', List.foldl_cons, List.foldl_nil]
  gi_wp2
  exact hK _ _ (KeepsFrom.refl _ _) (fun k o h _ => h) ⟨v, hv⟩ ⟨u, hu, rfl⟩
 case hbody =>
  rintro lp i x a' W hlp hloop hx ⟨v, hv⟩ ⟨u, hu, rfl⟩ hsz
  obtain ⟨A9, c9, rfl, _, _⟩ := Kd.R_reads hv.own
  obtain ⟨A3, c3, rfl, hc3, hr3⟩ := Kd.R_reads hu
  obtain ⟨P, hP⟩ : ∃ P, P = PA.take i := ⟨_, rfl⟩
  have hi := (List.getElem?_eq_some_iff.1 hx).1
  have hi2 : i < 256 := Nat.lt_of_lt_of_le hi HPO.out.2.2.2
  obtain ⟨p, hp⟩ : ∃ p, hashOf x (i + 1) = p := ⟨_, rfl⟩
  have hPs := take_step (HPO.out.2.1 i x hx)
  have hPl : P.length ≤ 1000000 := by rw [hP, List.length_take]; omega
  have hsm := HPO.out.2.2.1 x (List.mem_of_getElem? hx)
  rw [hp] at hPs
  have hown := hv.own
  have hvp := hv.p
  rw [← hP] at hPs hown hvp
  have K6 : wrap64 ((i : Int) + 1) = ((i + 1 : Nat) : Int) := by unfold wrap64; omega
  have hc0 := cell_P0 hvp
  have HWW : Words W := HW0.out.below hv.below
  have HQ := Aside0.mk (⟨hPs, hown, hc0, HWW, hr3, hsm, hp, K6, hvp, hv.r, hv.below, hv.size⟩ : _ ∧ _ ∧ _ ∧ _ ∧ _ ∧ _ ∧ _ ∧ _ ∧ _ ∧ _ ∧ _ ∧ _)
  clear hPs hown hc0 HWW hr3 hsm hp K6 hx hv hu hP hvp
  gi_wp2
  refine startR_ (n := 10) (S := fun w' => Below W.heap.size W w') (ds := [7, 8, 9]) #[false, false, false, false, false, false, false, false, false, false] (by kernel_rfl) (by kernel_rfl) (fun ⟨_, _, h⟩ => by cases h.1) rfl rfl (Below.refl _ _).drew (fun hHeld => ?_)
  refine pure_ (i := 0) (N := some 15) (v := ?_) (a' := ?_) #[true, false, false, false, false, false, false, false, false, false] rfl rfl (by kernel_rfl) (fun _ _ _ h => h) (Or.inl ⟨by rfl, ?_⟩) ?_ ?_
  rotate_left
  ·intro w'
   go_simp
   with_reducible rfl
  rotate_left
  ·simp only [Act.put, lZa, lZb, lZc, i64_w, i32_w]
   rfl
  refine take_ (i := 1) (N := some 16) (v := ?_) (a' := ?_) #[true, true, false, false, false, false, false, false, false, false] rfl rfl (by kernel_rfl) (fun _ _ _ h => h) (Or.inl ⟨by rfl, ?_⟩) hHeld ?_ ?_
  rotate_left
  ·intro w' hS
   have hx := (hS.cell (World.block_lt_of_cell? _ _ HQ.out.2.2.1)).trans HQ.out.2.2.1
   go_simp
   with_reducible rfl
  rotate_left
  ·simp only [Act.put, lZa, lZb, lZc, i64_w, i32_w]
   rfl
  refine pure_ (i := 2) (N := some 17) (v := ?_) (a' := ?_) #[true, true, true, false, false, false, false, false, false, false] rfl rfl (by kernel_rfl) (fun _ _ _ h => h) (Or.inl ⟨by rfl, ?_⟩) ?_ ?_
  rotate_left
  ·intro w'
   go_simp
   with_reducible rfl
  rotate_left
  ·simp only [Act.put, lZa, lZb, lZc, i64_w, i32_w]
   rfl
  refine pure_ (i := 3) (N := some 18) (v := ?_) (a' := ?_) #[true, true, true, true, false, false, false, false, false, false] rfl rfl (by kernel_rfl) (fun _ _ _ h => h) (Or.inl ⟨by rfl, ?_⟩) ?_ ?_
  rotate_left
  ·intro w'
   go_simp
   with_reducible rfl
  rotate_left
  ·simp only [Act.put, lZa, lZb, lZc, i64_w, i32_w]
   rfl
  refine pure_ (i := 4) (N := some 19) (v := ?_) (a' := ?_) #[true, true, true, true, true, false, false, false, false, false] rfl rfl (by kernel_rfl) (fun _ _ _ h => h) (Or.inl ⟨by rfl, ?_⟩) ?_ ?_
  rotate_left
  ·intro w'
   go_simp
   rw [i64_w, HQ.out.2.2.2.2.2.2.2.1]
   try with_reducible rfl
  rotate_left
  ·simp only [Act.put, lZa, lZb, lZc, i64_w, i32_w]
   rfl
  refine one_ (i := 5) (N := some 20) #[true, true, true, true, true, true, false, false, false, false] rfl rfl (by kernel_rfl) (by decide) (fun K hK => ?_)
  refine goes_ Tryz.func34 (by kernel_rfl) rfl #[.slice A3 x.length c3, .int .i64 ((i + 1 : Nat) : Int)] (by rfl) rfl rfl (by simp only [List.map_toArray, List.map_cons, List.map_nil]; rfl) ?_
  refine (hashm_calls x (i + 1) hi2 A3 c3 _ HQ.out.2.2.2.2.2.1 (HQ.out.2.2.2.1.below hHeld) (Kd.C_below HQ.out.2.2.2.2.1 hHeld) hc3).mono ?_
  rw [HQ.out.2.2.2.2.2.2.1]
  rintro e w5 ⟨rfl, hb5⟩
  refine ⟨_, rfl, ?_⟩
  refine hK.out _ _ (below_tr hHeld hb5 hHeld.size) (fun hHeld => ?_)
  clear hK K
  refine norm_ (a' := ?_) ?_ ?_
  rotate_left
  ·show Act.put _ (some 20) _ = _
   simp only [Act.put, lZa, lZb, lZc, i64_w, i32_w]
   rfl
  refine one_ (i := 6) (N := some 21) #[true, true, true, true, true, true, true, false, false, false] rfl rfl (by kernel_rfl) (by decide) (fun K hK => ?_)
  refine value_ (by rfl) rfl (bs1S_run (.tmp 20) rfl p rfl w5) ?_
  refine hK.out _ _ (below_tr hHeld (below_alloc (Below.refl _ _) _) hHeld.size) (fun hHeld => ?_)
  clear hK K
  refine norm_ (a' := ?_) ?_ ?_
  rotate_left
  ·show Act.put _ (some 21) _ = _
   simp only [Act.put, lZa, lZb, lZc, i64_w, i32_w]
   rfl
  refine tail_ 7 (by kernel_rfl) ?_
  simp only [List.toList_toArray, List.drop_succ_cons, List.drop_zero]
  rename_i _ hHeld2
  have hw5 : Below W.heap.size W w5 := hHeld2
  clear hHeld hHeld2 hb5
  have hown5 := Kd.R_below HQ.out.2.1 hw5
  have hsz5 := hw5.size
  refine app_S2 (wa := W) rfl (.tmp 16) (.tmp 21) rfl (.slice A9 P.length c9) P p rfl rfl w2.heap.size hown5 (hw5.mono hsz) (Nat.le_trans hsz hsz5) hPl ?_
  intro v6 w6 hr6 hb6 hg6
  obtain ⟨A6, c6, e6, _, _⟩ := Kd.R_reads hr6
  rw [List.length_append, List.length_singleton] at e6
  subst e6
  have h65 := (hb6.block (g + 1) (by omega)).trans HQ.out.2.2.2.2.2.2.2.2.1
  have hx0 := cell_P0 h65
  have hf0 := froz_P 0 h65
  go_wp2
  have hk1 : ∀ k, k < W.heap.size → k ≠ g + 1 → some k ≠ (Value.slice A9 P.length c9).ownBlock → (w6.setCell ⟨g + 1, 0, none⟩ (.slice A6 (P.length + 1) c6)).heap[k]? = W.heap[k]? := fun k hk h1 h2 => (heap_setCell_ne h1).trans ((hg6.block k (by omega) h2).trans (hw5.block k hk))
  have hob := (Kd.R_bound HQ.out.2.1).1
  have hsz6 := hg6.size
  have hsz7 : (w6.setCell ⟨g + 1, 0, none⟩ (.slice A6 (P.length + 1) c6)).heap.size = w6.heap.size := size_setCell _ _ _
  refine ⟨⟨by omega, fun k o hk ho hoc => (hk1 k (Array.getElem?_eq_some_iff.1 ho).1 ?_ ?_).trans ho⟩, fun k o ho hso => (hk1 k (Array.getElem?_eq_some_iff.1 ho).1 ?_ ?_).trans ho, .slice A6 (P.length + 1) c6, ?_⟩
  ·omega
  ·intro e
   obtain ⟨_, _, _, q, _, cells, hcl⟩ := hob k e.symm
   rw [hcl] at ho; cases ho; cases hoc
  ·rintro rfl
   rcases hso.2 with h | h | h | h | ⟨cells, fr, h⟩
   ·omega
   ·omega
   ·omega
   ·omega
   ·rw [h, HQ.out.2.2.2.2.2.2.2.2.1] at ho
    injection ho with ho
    injection ho with _ ho _
    exact absurd ho (by decide)
  ·intro e
   obtain ⟨_, hb1, _, q, hq, cells, hcl⟩ := hob k e.symm
   obtain rfl := List.mem_singleton.1 hq
   rcases hso.2 with h | h | h | h | ⟨cells, fr, h⟩
   ·omega
   ·rw [h] at hb1
    have := (Array.getElem?_eq_some_iff.1 HWY.out.bs).1
    omega
   ·rw [h] at hb1
    have := HWY.out.be.lt
    omega
   ·omega
   ·rw [h, hcl] at ho
    cases ho
  ·refine ⟨?_, set_P0 h65, (heap_setCell_ne (by omega)).trans ((hb6.block _ (by omega)).trans HQ.out.2.2.2.2.2.2.2.2.2.1), ?_, by omega⟩
   ·rw [HQ.out.1]
    exact Kd.R_set hr6 h65 (by decide) 0 _
   ·exact (HQ.out.2.2.2.2.2.2.2.2.2.2.1.trans (hb6.mono (by omega))).setCell (p := ⟨g + 1, 0, none⟩) (by show w.heap.size ≤ g + 1; omega) _
 case hdone =>
  rintro D W W' hD ⟨v9, hv9, hr9⟩ hA ⟨v, hv⟩ hsz hDd
  obtain ⟨E, hE⟩ : ∃ E, E = (wayOf L s).2 := ⟨_, rfl⟩
  rw [← hE] at hr9
  have hbx : Boxed W' (g + 2) 69 v9 := (hA.same _ hv9.lt (fun h => by rcases h with h | ⟨h, _⟩ <;> omega)).trans hv9
  have hrE : kI.R 77 W' 0 (fun _ => True) v9 E := R_kept hr9 rfl (fun k o hk hc => (hA.same k (Array.getElem?_eq_some_iff.1 hk).1 (fun h => by
   rcases h with h | ⟨_, o', ho, hoc⟩
   ·exact h
   ·obtain ⟨cells, fr, rfl⟩ := hc
    rw [hk] at ho; cases ho; cases hoc)).trans hk)
  obtain ⟨A3, c3, rfl, hc3, hr3⟩ := Kd.R_reads hrE
  obtain ⟨A9, c9, rfl, hc9, hr7⟩ := Kd.R_reads hv.own
  have hPA : PA.take O.length = PA := by rw [← HPO.out.1, List.take_length]
  have hown := hv.own
  rw [hPA] at hv hr7 hc9 hown
  have hpo : proveOf l k = if E.length = 0 then ⟨PA, 0, zL⟩ else ⟨PA, if (E.getD 0 zI).x.k = k then 1 else 2, (E.getD 0 zI).x⟩ := by rw [proveOf, ← HE.out.1, HE.out.2, ← HPA.out, ← hE]
  have HR := Aside0.mk (⟨hbx, hrE, hown, hv.p, hv.r, hv.below, hv.size, hDd, hc9⟩ : _ ∧ _ ∧ _ ∧ _ ∧ _ ∧ _ ∧ _ ∧ _ ∧ _)
  have HDD := Aside0.mk hD
  have HQO := Aside0.mk hpo
  have hbc := hbx.cell
  clear hv hE hr9 hA hv9 hrE hDd hpo hr7 hPA hbx hD hgv hI0
  have hbc1 : W'.cell? ⟨g + 1 + 1, 0, none⟩ = some (.slice A3 E.length c3) := hbc
  by_cases h0 : E.length = 0
  ·have h0b : ((E.length : Int) == 0) = true := by simp [h0]
   have hpe : proveOf l k = ⟨PA, 0, zL⟩ := by rw [HQO.out, if_pos h0]
   have HPE := Aside0.mk hpe
   have hl2 : (loadVar 34 ⟨g + 1, 0, none⟩).run Tryz.prog W' = .ok (.agg (cP (.slice A9 PA.length c9) 0 zL)) W' := ld_P HR.out.2.2.2.1 0
   obtain ⟨C, hC⟩ : ∃ C, C = cP (.slice A9 PA.length c9) 0 zL := ⟨_, rfl⟩
   rw [← hC] at hl2
   have HC := Aside0.mk (⟨hC, by rw [hC, cP_size], by rw [hC]; exact all_one (cP_one rfl _ _)⟩ : C = cP (.slice A9 PA.length c9) 0 zL ∧ C.size = 35 ∧ C.all (·.oneCell') = true)
   clear hC h0 hpe
   gi_wp2_with (first
    | (refine wpListIn_loadv rfl 34 _ rfl _ rfl _ hl2 ?_)
    | (refine wpListIn_store_row rfl 34 (.tmp 4) (.tmp 27) rfl g C rfl rfl 34 (cP (.slice none 0 0) 0 zL) HR.out.2.2.2.2.1 (by rw [HC.out.2.1]; kernel_rfl) (by rw [HC.out.2.1, cP_size]) HC.out.2.2 ?_))
   have hbel3 : Below w.heap.size w (W'.setRow g C) := below_setRow HR.out.2.2.2.2.2.1 (by have := HG.out; omega)
   have hown3 : kS.R 30 (W'.setRow g C) w2.heap.size (fun _ => True) (.slice A9 PA.length c9) PA := R_setRow HR.out.2.2.1 (by omega) C
   have hgr3 : (W'.setRow g C).heap[g]? = some (.cells C 34 (0, 0)) := setRow_heap _ _ _ _ _ _ HR.out.2.2.2.2.1
   have hdd3 : (W'.setRow g C).heap[D]? = some (.deferred (some [])) := (setRow_other _ _ _ _ (by have := HDD.out; omega)).trans HR.out.2.2.2.2.2.2.2.1
   have hDg : g ≠ D := by have := HDD.out; omega
   refine leaves_marks w.heap.size [D] _ (by simp) (fun D' hD' => by rw [List.mem_singleton.1 hD']; exact ⟨by have := HDD.out; omega, hdd3⟩) (fun w' hk hz ho ht hou => ⟨_, results_cell_row rfl _ _ g 34 _ (0, 0) _ rfl ((hk g (by simpa using hDg)).trans hgr3) hu36 rfl (by rw [HC.out.2.1]; kernel_rfl), ?_⟩)
   rw [HPE.out]
   refine ⟨A9, c9, by rw [HC.out.1], (R_C (R_kept hown3 rfl (fun k o hk' hc => (hk k (fun h => ?_)).trans hk'))).2.2, HR.out.2.2.2.2.2.2.2.2, ⟨ho.trans hbel3.os, ht.trans hbel3.tape, hou.trans hbel3.output, by rw [hz]; exact hbel3.size, fun k hk' => (hk k (fun h => ?_)).trans (hbel3.block k hk')⟩⟩
   ·rw [List.mem_singleton.1 h, hdd3] at hk'
    obtain ⟨cells, fr, rfl⟩ := hc
    cases hk'
   ·rw [List.mem_singleton.1 h] at hk'
    have := HDD.out
    omega
  ·have h0b : ((E.length : Int) == 0) = false := by simp [h0]
   have hpos : 0 < E.length := by omega
   obtain ⟨y, hy⟩ : ∃ y, y = E.getD 0 zI := ⟨_, rfl⟩
   obtain ⟨ad, eA, hat⟩ := at_flat (R_C HR.out.2.1).2.2 zI (0 : Int) (by omega) (by omega)
   subst eA
   rw [show ((0 : Int).toNat) = 0 from rfl, ← hy, Nat.zero_mul, Addr.add_zero'] at hat
   have hne : ad.block ≠ g + 1 := R_off HR.out.2.1 HR.out.2.2.2.1 (by decide) ad rfl hpos
   have hpe : proveOf l k = ⟨PA, if y.x.k = k then 1 else 2, y.x⟩ := by rw [HQO.out, if_neg h0, ← hy]
   have HPE := Aside0.mk hpe
   have HAT := Aside0.mk (And.intro (at_I0 hat) hne)
   obtain ⟨z, hz⟩ : ∃ z, z = y.x := ⟨_, rfl⟩
   rw [← hz] at HPE HAT
   have h0c : ((0 : Int) < (E.length : Int)) = True := eq_true (by omega)
   have h0n : (0 < E.length) = True := eq_true hpos
   clear h0 hpe hne hat hy hz hpos
   gi_wp2
   refine wpIn_wide.2 (wp_region_noPanic ?_)
   refine start_ (n := 8) (S := fun w' => ∀ b, b ≠ g + 1 → w'.heap[b]? = W'.heap[b]?) (ds := []) #[false, false, false, false, false, false, false, false] (by kernel_rfl) rfl rfl (fun _ _ => rfl) (fun hHeld => ?_)
   refine take_ (i := 0) (N := some 28) (v := ?_) (a' := ?_) #[true, false, false, false, false, false, false, false] rfl rfl (by kernel_rfl) (fun _ _ _ h => h) (Or.inl ⟨by rfl, ?_⟩) hHeld ?_ ?_
   rotate_left
   ·intro w' hS
    have hx := (World.cell?_of_block (a := ⟨g + 2, 0, none⟩) (hS (g + 2) (by omega))).trans hbc
    go_simp
    with_reducible rfl
   rotate_left
   ·simp only [Act.put, lZa, lZb, lZc, i64_w, i32_w]
    rfl
   refine pure_ (i := 1) (N := some 29) (v := ?_) (a' := ?_) #[true, true, false, false, false, false, false, false] rfl rfl (by kernel_rfl) (fun _ _ _ h => h) (Or.inl ⟨by rfl, ?_⟩) ?_ ?_
   rotate_left
   ·intro w'
    go_simp
    with_reducible rfl
   rotate_left
   ·simp only [Act.put, lZa, lZb, lZc, i64_w, i32_w]
    rfl
   refine pure_ (i := 2) (N := some 30) (v := ?_) (a' := ?_) #[true, true, true, false, false, false, false, false] rfl rfl (by kernel_rfl) (fun _ _ _ h => h) (Or.inl ⟨by rfl, ?_⟩) ?_ ?_
   rotate_left
   ·intro w'
    go_simp
    with_reducible rfl
   rotate_left
   ·simp only [Act.put, lZa, lZb, lZc, i64_w, i32_w]
    rfl
   refine take_ (i := 3) (N := some 31) (v := .agg (cL z)) (a' := ?_) #[true, true, true, true, false, false, false, false] rfl rfl (by kernel_rfl) (fun _ _ _ h => h) (Or.inl ⟨by rfl, fun w' hS => yield_load _ _ rfl _ rfl (run_loadVar_at _ ad 32 (cL z) _ (fun j u hj => (World.cell?_of_block (hS _ (by rw [show (ad.add j).block = ad.block by unfold Addr.add; split <;> rfl]; exact HAT.out.2))).trans (HAT.out.1 j u hj)) Tryz.underlying32 rfl (by rw [cL_size]; kernel_rfl))⟩) hHeld ?_ ?_
   rotate_left
   ·simp only [Act.put, lZa, lZb, lZc, i64_w, i32_w]
    rfl
   refine pure_ (i := 4) (N := some 32) (v := ?_) (a' := ?_) #[true, true, true, true, true, false, false, false] rfl rfl (by kernel_rfl) (fun _ _ _ h => h) (Or.inl ⟨by rfl, ?_⟩) ?_ ?_
   rotate_left
   ·intro w'
    go_simp
    with_reducible rfl
   rotate_left
   ·simp only [Act.put, lZa, lZb, lZc, i64_w, i32_w]
    rfl
   refine one_ (i := 5) (N := none) #[true, true, true, true, true, true, false, false] rfl rfl (by kernel_rfl) (by decide) (fun K hK => ?_)
   refine st_cell (by rfl) rfl 3 (.tmp 32) (.const (.int .i64 2)) rfl ⟨g + 1, 1, none⟩ (.int .i64 2) (.int .i64 0) rfl rfl rfl rfl rfl (by kernel_rfl) (cell_P1 HR.out.2.2.2.1) (froz_P 1 HR.out.2.2.2.1) ?_
   refine hK.out _ _ (fun b hb => heap_setCell_ne hb) (fun hHeld => ?_)
   clear hK K
   refine pure_ (i := 6) (N := some 33) (v := ?_) (a' := ?_) #[true, true, true, true, true, true, true, false] rfl rfl (by kernel_rfl) (fun _ _ _ h => h) (Or.inl ⟨by rfl, ?_⟩) ?_ ?_
   rotate_left
   ·intro w'
    go_simp
    with_reducible rfl
   rotate_left
   ·simp only [Act.put, lZa, lZb, lZc, i64_w, i32_w]
    rfl
   refine one_ (i := 7) (N := none) #[true, true, true, true, true, true, true, true] rfl rfl (by kernel_rfl) (by decide) (fun K hK => ?_)
   refine st_mid (by rfl) rfl 32 (.tmp 33) (.tmp 31) rfl (g + 1) 2 (cL z) rfl rfl (by rw [cL_size]; exact there_P2 (set_P1 2 HR.out.2.2.2.1)) (by rw [cL_size]; kernel_rfl) (all_one (cL_one _)) ?_
   refine hK.out _ _ (fun b hb => (heap_setCells_ne hb _ _ _).trans (heap_setCell_ne hb)) (fun hHeld => ?_)
   clear hK K
   refine done_ (by kernel_rfl) (NoPanic.normal ?_)
   obtain ⟨wz, hwz⟩ : ∃ wz, wz = (W'.drew.setCell ⟨g + 1, 1, none⟩ (.int .i64 2)).setCells (g + 1) 2 (cL z).toList := ⟨_, rfl⟩
   have hz5 : wz.heap[g + 1]? = some (.cells (cP (.slice A9 PA.length c9) 2 z) 34 (0, 0)) := by rw [hwz]; exact set_P2 (set_P1 2 HR.out.2.2.2.1)
   have hzo : ∀ b, b ≠ g + 1 → wz.heap[b]? = W'.heap[b]? := fun b hb => by rw [hwz]; exact (heap_setCells_ne hb _ _ _).trans (heap_setCell_ne hb)
   have hzb : Below w.heap.size w wz := by rw [hwz]; exact below_setCells _ _ (HR.out.2.2.2.2.2.1.drew.setCell (p := ⟨g + 1, 1, none⟩) (by show w.heap.size ≤ g + 1; omega) _) (by omega)
   have hzr : kS.R 30 wz w2.heap.size (fun _ => True) (.slice A9 PA.length c9) PA := R_kept HR.out.2.2.1 rfl (fun k o hk hc => (hzo k (fun e => by
    rw [e, HR.out.2.2.2.1] at hk
    obtain ⟨cells, fr, rfl⟩ := hc
    injection hk with hk
    injection hk with _ hk _
    exact absurd hk (by decide))).trans hk)
   have HZ := Aside0.mk (⟨hz5, (hzo g (by omega)).trans HR.out.2.2.2.2.1, hzb, hzr, (hzo D (by have := HDD.out; omega)).trans HR.out.2.2.2.2.2.2.2.1⟩ : _ ∧ _ ∧ _ ∧ _ ∧ _)
   have hxk := cell_P2 hz5
   have hxe := cell_P1 hz5
   have hxf := froz_P 1 hz5
   rw [← hwz]
   clear hwz hz5 hzo hzb hzr hHeld
   by_cases hq : z.k.toList = k.toList
   ·have hqb : (z.k.toList == k.toList) = true := by simp [hq]
    have hpe : proveOf l k = ⟨PA, 1, z⟩ := by rw [HPE.out, if_pos (toList_inj.1 hq)]
    have HP1 := Aside0.mk hpe
    have h5 := set_P1 (g := g + 1) 1 HZ.out.1
    have hl2 : (loadVar 34 ⟨g + 1, 0, none⟩).run Tryz.prog (wz.setCell ⟨g + 1, 1, none⟩ (.int .i64 1)) = .ok (.agg (cP (.slice A9 PA.length c9) 1 z)) (wz.setCell ⟨g + 1, 1, none⟩ (.int .i64 1)) := ld_P h5 0
    obtain ⟨C, hC⟩ : ∃ C, C = cP (.slice A9 PA.length c9) 1 z := ⟨_, rfl⟩
    rw [← hC] at hl2
    have HC := Aside0.mk (⟨hC, by rw [hC, cP_size], by rw [hC]; exact all_one (cP_one rfl _ _)⟩ : C = cP (.slice A9 PA.length c9) 1 z ∧ C.size = 35 ∧ C.all (·.oneCell') = true)
    have hgo : (wz.setCell ⟨g + 1, 1, none⟩ (.int .i64 1)).heap[g]? = some (.cells (cP (.slice none 0 0) 0 zL) 34 (0, 0)) := (heap_setCell_ne (by omega)).trans HZ.out.2.1
    have HGO := Aside0.mk hgo
    clear hC h5 hpe hq hgo
    gi_wp2_with (first
     | (refine wpListIn_loadv rfl 34 _ rfl _ rfl _ hl2 ?_)
     | (refine wpListIn_store_row rfl 34 (.tmp 4) (.tmp 40) rfl g C rfl rfl 34 (cP (.slice none 0 0) 0 zL) HGO.out (by rw [HC.out.2.1]; kernel_rfl) (by rw [HC.out.2.1, cP_size]) HC.out.2.2 ?_))
    have hbel3 : Below w.heap.size w ((wz.setCell ⟨g + 1, 1, none⟩ (.int .i64 1)).setRow g C) := below_setRow (HZ.out.2.2.1.setCell (p := ⟨g + 1, 1, none⟩) (by show w.heap.size ≤ g + 1; omega) _) (by have := HG.out; omega)
    have hown3 : kS.R 30 ((wz.setCell ⟨g + 1, 1, none⟩ (.int .i64 1)).setRow g C) w2.heap.size (fun _ => True) (.slice A9 PA.length c9) PA := R_setRow (R_setCell HZ.out.2.2.2.1 (by omega) _) (by omega) C
    have hgr3 : ((wz.setCell ⟨g + 1, 1, none⟩ (.int .i64 1)).setRow g C).heap[g]? = some (.cells C 34 (0, 0)) := setRow_heap _ _ _ _ _ _ HGO.out
    have hdd3 : ((wz.setCell ⟨g + 1, 1, none⟩ (.int .i64 1)).setRow g C).heap[D]? = some (.deferred (some [])) := (setRow_other _ _ _ _ (by have := HDD.out; omega)).trans ((heap_setCell_ne (by have := HDD.out; omega)).trans HZ.out.2.2.2.2)
    have hDg : g ≠ D := by have := HDD.out; omega
    refine leaves_marks w.heap.size [D] _ (by simp) (fun D' hD' => by rw [List.mem_singleton.1 hD']; exact ⟨by have := HDD.out; omega, hdd3⟩) (fun w' hk hz ho ht hou => ⟨_, results_cell_row rfl _ _ g 34 _ (0, 0) _ rfl ((hk g (by simpa using hDg)).trans hgr3) hu36 rfl (by rw [HC.out.2.1]; kernel_rfl), ?_⟩)
    rw [HP1.out]
    refine ⟨A9, c9, by rw [HC.out.1], (R_C (R_kept hown3 rfl (fun k o hk' hc => (hk k (fun h => ?_)).trans hk'))).2.2, HR.out.2.2.2.2.2.2.2.2, ⟨ho.trans hbel3.os, ht.trans hbel3.tape, hou.trans hbel3.output, by rw [hz]; exact hbel3.size, fun k hk' => (hk k (fun h => ?_)).trans (hbel3.block k hk')⟩⟩
    ·rw [List.mem_singleton.1 h, hdd3] at hk'
     obtain ⟨cells, fr, rfl⟩ := hc
     cases hk'
    ·rw [List.mem_singleton.1 h] at hk'
     have := HDD.out
     omega
   ·have hqb : (z.k.toList == k.toList) = false := by simp [hq]
    have hpe : proveOf l k = ⟨PA, 2, z⟩ := by rw [HPE.out, if_neg (fun e => hq (toList_inj.2 e))]
    have HP1 := Aside0.mk hpe
    have hl2 : (loadVar 34 ⟨g + 1, 0, none⟩).run Tryz.prog wz = .ok (.agg (cP (.slice A9 PA.length c9) 2 z)) wz := ld_P HZ.out.1 0
    obtain ⟨C, hC⟩ : ∃ C, C = cP (.slice A9 PA.length c9) 2 z := ⟨_, rfl⟩
    rw [← hC] at hl2
    have HC := Aside0.mk (⟨hC, by rw [hC, cP_size], by rw [hC]; exact all_one (cP_one rfl _ _)⟩ : C = cP (.slice A9 PA.length c9) 2 z ∧ C.size = 35 ∧ C.all (·.oneCell') = true)
    clear hC hpe hq
    gi_wp2_with (first
     | (refine wpListIn_loadv rfl 34 _ rfl _ rfl _ hl2 ?_)
     | (refine wpListIn_store_row rfl 34 (.tmp 4) (.tmp 40) rfl g C rfl rfl 34 (cP (.slice none 0 0) 0 zL) HZ.out.2.1 (by rw [HC.out.2.1]; kernel_rfl) (by rw [HC.out.2.1, cP_size]) HC.out.2.2 ?_))
    have hbel3 : Below w.heap.size w (wz.setRow g C) := below_setRow HZ.out.2.2.1 (by have := HG.out; omega)
    have hown3 : kS.R 30 (wz.setRow g C) w2.heap.size (fun _ => True) (.slice A9 PA.length c9) PA := R_setRow HZ.out.2.2.2.1 (by omega) C
    have hgr3 : (wz.setRow g C).heap[g]? = some (.cells C 34 (0, 0)) := setRow_heap _ _ _ _ _ _ HZ.out.2.1
    have hdd3 : (wz.setRow g C).heap[D]? = some (.deferred (some [])) := (setRow_other _ _ _ _ (by have := HDD.out; omega)).trans HZ.out.2.2.2.2
    have hDg : g ≠ D := by have := HDD.out; omega
    refine leaves_marks w.heap.size [D] _ (by simp) (fun D' hD' => by rw [List.mem_singleton.1 hD']; exact ⟨by have := HDD.out; omega, hdd3⟩) (fun w' hk hz ho ht hou => ⟨_, results_cell_row rfl _ _ g 34 _ (0, 0) _ rfl ((hk g (by simpa using hDg)).trans hgr3) hu36 rfl (by rw [HC.out.2.1]; kernel_rfl), ?_⟩)
    rw [HP1.out]
    refine ⟨A9, c9, by rw [HC.out.1], (R_C (R_kept hown3 rfl (fun k o hk' hc => (hk k (fun h => ?_)).trans hk'))).2.2, HR.out.2.2.2.2.2.2.2.2, ⟨ho.trans hbel3.os, ht.trans hbel3.tape, hou.trans hbel3.output, by rw [hz]; exact hbel3.size, fun k hk' => (hk k (fun h => ?_)).trans (hbel3.block k hk')⟩⟩
    ·rw [List.mem_singleton.1 h, hdd3] at hk'
     obtain ⟨cells, fr, rfl⟩ := hc
     cases hk'
    ·rw [List.mem_singleton.1 h] at hk'
     have := HDD.out
     omega
end Go.Proofs.YtanabbjakacgbaaGreatDoor.Sp
namespace Go.Proofs.YtanabbjakacgbaaGreatDoor.Grow
set_option linter.unusedSimpArgs false
open Go Go.RowKit
section
variable {P : Program} {ops : Array Oper}
def dstN (ops : Array Oper) (i : Nat) : Nat := ((ops[i]?).bind (·.dst)).getD 0
def fil (ops : Array Oper) (T : Array Value) (vs : Nat → Value) (n : Nat) : Array Value := (List.range n).foldl (fun t i => t.setIfInBounds (dstN ops i) (vs i)) T
def ap (ops : Array Oper) (n : Nat) (a0 : Act) (vs : Nat → Value) : Act := { a0 with tmps := fil ops a0.tmps vs n }
def upd (vs : Nat → Value) (i : Nat) (v : Value) : Nat → Value := fun j => if j = i then v else vs j
theorem fil_succ (T : Array Value) (vs : Nat → Value) (n : Nat) : fil ops T vs (n + 1) = (fil ops T vs n).setIfInBounds (dstN ops n) (vs n) := by
 unfold fil
 rw [List.range_succ, List.foldl_append]
 rfl
theorem fil_size (T : Array Value) (vs : Nat → Value) : ∀ n, (fil ops T vs n).size = T.size
 | 0 => rfl
 | n + 1 => by rw [fil_succ, Array.size_setIfInBounds, fil_size T vs n]
theorem fil_out (T : Array Value) (vs : Nat → Value) (t : Nat) : ∀ n, (∀ j, j < n → dstN ops j ≠ t) → (fil ops T vs n)[t]? = T[t]?
 | 0, _ => rfl
 | n + 1, h => by
  rw [fil_succ, Array.getElem?_setIfInBounds_ne (h n (Nat.lt_succ_self n))]
  exact fil_out T vs t n (fun j hj => h j (by omega))
theorem fil_in (T : Array Value) (vs : Nat → Value) (i : Nat) : ∀ n, i < n → (∀ j k, j < n → k < n → dstN ops j = dstN ops k → j = k) → dstN ops i < T.size → (fil ops T vs n)[dstN ops i]? = some (vs i)
 | 0, h, _, _ => absurd h (Nat.not_lt_zero _)
 | n + 1, h, hd, hs => by
  rw [fil_succ]
  by_cases e : i = n
  ·subst e
   rw [Array.getElem?_setIfInBounds_self_of_lt (by rw [fil_size]; exact hs)]
  ·rw [Array.getElem?_setIfInBounds_ne (fun h' => e (hd n i (Nat.lt_succ_self n) h h').symm)]
   exact fil_in T vs i n (by omega) (fun j k hj hk => hd j k (by omega) (by omega)) hs
theorem ap_put {n i : Nat} {a0 : Act} {vs : Nat → Value} {v : Value} (hi : i < n) (hd : ∀ j k, j < n → k < n → dstN ops j = dstN ops k → j = k) : (ap ops n a0 vs).put (some (dstN ops i)) v = ap ops n a0 (upd vs i v) := by
 show ({ a0 with tmps := (fil ops a0.tmps vs n).setIfInBounds (dstN ops i) v } : Act) = { a0 with tmps := fil ops a0.tmps (upd vs i v) n }
 congr 1
 apply Array.ext_getElem?
 intro t
 by_cases ht : dstN ops i = t
 ·subst ht
  by_cases hs : dstN ops i < a0.tmps.size
  ·rw [Array.getElem?_setIfInBounds_self_of_lt (by rw [fil_size]; exact hs), fil_in _ _ i n hi hd hs, upd, if_pos rfl]
  ·rw [Array.getElem?_eq_none (by rw [Array.size_setIfInBounds, fil_size]; omega), Array.getElem?_eq_none (by rw [fil_size]; omega)]
 ·rw [Array.getElem?_setIfInBounds_ne ht]
  by_cases hj : ∃ j, j < n ∧ dstN ops j = t
  ·obtain ⟨j, hjn, rfl⟩ := hj
   have hji : j ≠ i := fun e => ht (by rw [e])
   by_cases hs : dstN ops j < a0.tmps.size
   ·rw [fil_in _ _ j n hjn hd hs, fil_in _ _ j n hjn hd hs, upd, if_neg hji]
   ·rw [Array.getElem?_eq_none (by rw [fil_size]; omega), Array.getElem?_eq_none (by rw [fil_size]; omega)]
  ·have hn : ∀ j, j < n → dstN ops j ≠ t := fun j hjn e => hj ⟨j, hjn, e⟩
   rw [fil_out _ _ _ n hn, fil_out _ _ _ n hn]
def growB (ops : Array Oper) (n : Nat) : Bool :=
 decide (n < ops.size) && Region.sinkB .any ops n && Region.chainB .any ops n &&
 ((List.range n).all fun i => match ops[i]? with
  | some o => o.dst.isSome && o.guard.isNone && (o.after.all fun e => !Region.binds .any e || decide (e.on < i)) && ((List.range n).all fun k => decide (i = k) || decide (dstN ops i ≠ dstN ops k))
  | none => false) &&
 Region.seqB .any ops (ops.size - n) n ((List.replicate n true ++ List.replicate (ops.size - n) false).toArray)
structure GrowS (ops : Array Oper) (n : Nat) : Prop where
 lt : n < ops.size
 sink : Region.sinkB .any ops n = true
 chain : Region.chainB .any ops n = true
 at_ : ∀ i, i < n → ∃ o, ops[i]? = some o ∧ o.dst = some (dstN ops i) ∧ o.guard = none ∧ (∀ e ∈ o.after, Region.binds .any e = true → e.on < i)
 dis : ∀ j k, j < n → k < n → dstN ops j = dstN ops k → j = k
 seq : Region.seqB .any ops (ops.size - n) n ((List.replicate n true ++ List.replicate (ops.size - n) false).toArray) = true
theorem growB_spec {n : Nat} (h : growB ops n = true) : GrowS ops n := by
 simp only [growB, Bool.and_eq_true, decide_eq_true_eq, List.all_eq_true, List.mem_range] at h
 obtain ⟨⟨⟨⟨h1, h2⟩, h3⟩, h4⟩, h5⟩ := h
 have key : ∀ i, i < n → ∃ o, ops[i]? = some o ∧ o.dst = some (dstN ops i) ∧ o.guard = none ∧ (∀ e ∈ o.after, Region.binds .any e = true → e.on < i) ∧ ∀ k, k < n → i = k ∨ dstN ops i ≠ dstN ops k := by
  intro i hi
  have := h4 i hi
  cases ho : ops[i]? with
  | none => rw [ho] at this; cases this
  | some o =>
   rw [ho] at this
   simp only [Bool.and_eq_true, List.all_eq_true, List.mem_range, Bool.or_eq_true, decide_eq_true_eq] at this
   obtain ⟨⟨⟨h6, h7⟩, h8⟩, h9⟩ := this
   obtain ⟨N, hN⟩ := Option.isSome_iff_exists.1 h6
   refine ⟨o, rfl, ?_, Option.isNone_iff_eq_none.1 h7, fun e he hb => ?_, h9⟩
   ·simp [dstN, ho, hN]
   ·have := Array.all_eq_true_iff_forall_mem.1 h8 e he
    rw [hb] at this
    simpa using this
 refine ⟨h1, h2, h3, fun i hi => ?_, fun j k hj hk e => ?_, h5⟩
 ·obtain ⟨o, a, b, c, d, _⟩ := key i hi
  exact ⟨o, a, b, c, d⟩
 ·obtain ⟨o, _, _, _, _, d⟩ := key j hj
  rcases d k hk with d | d
  ·exact d
  ·exact absurd e d
theorem count_set {p q : Nat → Bool} {i : Nat} (hp : p i = true) (hq : q i = false) (he : ∀ j, j ≠ i → q j = p j) : ∀ n, i < n → (List.range n).countP q + 1 = (List.range n).countP p
 | 0, h => absurd h (Nat.not_lt_zero _)
 | n + 1, h => by
  rw [List.range_succ, List.countP_append, List.countP_append, List.countP_singleton, List.countP_singleton]
  by_cases e : i = n
  ·subst e
   rw [hp, hq]
   have : (List.range i).countP q = (List.range i).countP p := List.countP_congr fun j hj => by
    have := List.mem_range.1 hj
    rw [he j (by omega)]
   simp [this]
  ·have := count_set hp hq he n (by omega)
   rw [he n (Ne.symm e)]
   omega
def blk : Value → Option Nat
 | .pointer (some ad) => some ad.block
 | .slice (some ad) _ _ => some ad.block
 | _ => none
theorem any_of_grow {n : Nat} (G : GrowS ops n) {Q : Exit → Act → World → Prop} {a0 : Act} {w0 : World} (F : Nat → Value → World → Prop) (M : Nat → Bool) (hmono : ∀ i v w w', F i v w → Below w.heap.size w w' → F i v w')
  (hstep : ∀ i o, i < n → ops[i]? = some o → ∀ vs w, Below w0.heap.size w0 w → (∀ e ∈ o.after, Region.binds .any e = true → F e.on (vs e.on) w) → ∀ K : Act → World → Prop, (∀ v w', F i v w' → Below w.heap.size w w' → (M i = true → ∀ b, blk v = some b → w.heap.size ≤ b ∧ b < w'.heap.size) → K ((ap ops n a0 vs).put o.dst v) w') → o.wp P (ap ops n a0 vs) w K Q)
  (hend : ∀ vs w, Below w0.heap.size w0 w → (∀ i, i < n → F i (vs i) w) → (∀ i j, i < n → j < n → i ≠ j → M i = true → M j = true → ∀ b, blk (vs i) = some b → blk (vs j) ≠ some b) → wpList P ops Q (ops.toList.drop n) (ap ops n a0 vs) w) :
  ∀ (f : Nat) (l : Array Bool) (vs : Nat → Value) (w : World), (List.range n).countP (fun i => !l.getD i false) = f → HeadInv .any ops n l → (∀ i, i < n → l.getD i false = true → F i (vs i) w) → Below w0.heap.size w0 w →
   (∀ i, i < n → l.getD i false = true → M i = true → ∀ b, blk (vs i) = some b → b < w.heap.size) → (∀ i j, i < n → j < n → l.getD i false = true → l.getD j false = true → i ≠ j → M i = true → M j = true → ∀ b, blk (vs i) = some b → blk (vs j) ≠ some b) →
   wpAny P .any ops Q (f + (ops.size - n)) l (ap ops n a0 vs) w := by
 intro f
 induction f with
 | zero =>
  intro l vs w hf inv hF hb hD1 hD2
  have hall : ∀ i, i < n → l.getD i false = true := fun i hi => by
   have := List.countP_eq_zero.1 hf i (List.mem_range.2 hi)
   simpa using this
  have hl : l = (List.replicate n true ++ List.replicate (ops.size - n) false).toArray := by
   have hlt := G.lt
   apply Array.ext
   ·rw [inv.size]; simp; omega
   ·intro i h1 h2
    have h3 : i < ops.size := by rw [← inv.size]; exact h1
    by_cases hi : i < n
    ·have := hall i hi
     simp [h1] at this
     simp [this, List.getElem_append, hi]
    ·have := inv.tail i (by omega) h3
     simp [h1] at this
     simp [this, List.getElem_append, hi]
  rw [Nat.zero_add]
  have hs := wpAny_of_seq (P := P) (md := .any) (ops := ops) (Q' := Q) (ops.toList.drop n) n l (ap ops n a0 vs) w (fun j => by simp) (by rw [show (ops.toList.drop n).length = ops.size - n by simp, hl]; exact G.seq) (hend vs w hb (fun i hi => hF i hi (hall i hi)) (fun i j hi hj => hD2 i j hi hj (hall i hi) (hall j hj)))
  rwa [show (ops.toList.drop n).length = ops.size - n by simp] at hs
 | succ f ih =>
  intro l vs w hf inv hF hb hD1 hD2
  have hsz : ∀ i, i < n → i < l.size := fun i hi => by rw [inv.size]; have := G.lt; omega
  have hex : ∃ i, i < n ∧ l.getD i false = false := by
   have h0 : 0 < (List.range n).countP (fun i => !l.getD i false) := by omega
   obtain ⟨i, hi, hp⟩ := List.countP_pos_iff.1 h0
   exact ⟨i, List.mem_range.1 hi, by simpa using hp⟩
  have hready : Region.ready .any ops l ≠ [] := by
   have hmin : ∀ d i, i ≤ d → i < n → l.getD i false = false → Region.ready .any ops l ≠ [] := by
    intro d
    induction d with
    | zero =>
     intro i hid hi hu hne
     obtain ⟨o, ho, _, _, haf⟩ := G.at_ i hi
     have : i ∈ Region.ready .any ops l := mem_ready.2 ⟨getD_in (hsz i hi) hu, o, ho, fun e he hbd => absurd (haf e he hbd) (by omega)⟩
     rw [hne] at this
     cases this
    | succ d ihd =>
     intro i hid hi hu
     obtain ⟨o, ho, _, _, haf⟩ := G.at_ i hi
     by_cases hc : ∃ j, j < i ∧ l.getD j false = false
     ·obtain ⟨j, hj, hju⟩ := hc
      exact ihd j (by omega) (by omega) hju
     ·intro hne
      have : i ∈ Region.ready .any ops l := mem_ready.2 ⟨getD_in (hsz i hi) hu, o, ho, fun e he hbd => by
       have h1 := haf e he hbd
       cases h2 : l.getD e.on false with
       | true => rfl
       | false => exact absurd ⟨e.on, h1, h2⟩ hc⟩
      rw [hne] at this
      cases this
   obtain ⟨i, hi, hu⟩ := hex
   exact hmin i i (Nat.le_refl _) hi hu
  obtain ⟨i0, hi0, hu0⟩ := hex
  rw [show f + 1 + (ops.size - n) = (f + (ops.size - n)) + 1 by omega]
  refine ⟨fun h => absurd h hready, fun i hi => ?_⟩
  have hin : i < n := Nat.lt_of_not_le fun h => tail_waits G.sink G.chain G.lt inv _ i0 rfl hi0 (getD_in (hsz i0 hi0) hu0) i h hi
  obtain ⟨hun, o, ho, hdep⟩ := mem_ready.1 hi
  obtain ⟨o', ho', hdst, hgd, haf⟩ := G.at_ i hin
  obtain rfl : o = o' := Option.some.inj (ho.symm.trans ho')
  refine wpOp_step ho (fun K hK => ?_)
  rw [if_pos (by unfold Region.wanted; rw [hgd])]
  refine hstep i o hin ho vs w hb (fun e he hbd => hF e.on (by have := haf e he hbd; omega) (hdep e he hbd)) K (fun v w' hv hw' hM => hK _ _ ?_)
  rw [hdst, ap_put hin G.dis]
  refine ih (l.setIfInBounds i true) (upd vs i v) w' ?_ (inv.set hi hin) (fun j hj hlj => ?_) (hb.trans (hw'.mono hb.size)) (fun j hj hlj hMj b hbj => ?_) (fun j k hj hk hlj hlk hjk hMj hMk b hbj hbk => ?_)
  ·have hc := count_set (p := fun k => !l.getD k false) (q := fun k => !(l.setIfInBounds i true).getD k false) (i := i) (by simp [getD_both hun]) (by simp [hsz i hin]) (fun j hji => by show (!_) = (!_); rw [getD_set_ne false (Ne.symm hji)]) n hin
   omega
  ·by_cases hji : j = i
   ·subst hji
    rw [upd, if_pos rfl]
    exact hv
   ·rw [upd, if_neg hji]
    rw [getD_set_ne false (Ne.symm hji)] at hlj
    exact hmono _ _ _ _ (hF j hj hlj) hw'
  ·by_cases hji : j = i
   ·subst hji
    rw [upd, if_pos rfl] at hbj
    exact (hM hMj b hbj).2
   ·rw [upd, if_neg hji] at hbj
    rw [getD_set_ne false (Ne.symm hji)] at hlj
    exact Nat.lt_of_lt_of_le (hD1 j hj hlj hMj b hbj) hw'.size
  ·by_cases hji : j = i
   ·subst hji
    rw [upd, if_pos rfl] at hbj
    rw [upd, if_neg (Ne.symm hjk)] at hbk
    rw [getD_set_ne false hjk] at hlk
    have h1 := (hM hMj b hbj).1
    have h2 := hD1 k hk hlk hMk b hbk
    omega
   ·rw [upd, if_neg hji] at hbj
    rw [getD_set_ne false (Ne.symm hji)] at hlj
    by_cases hki : k = i
    ·subst hki
     rw [upd, if_pos rfl] at hbk
     have h1 := (hM hMk b hbk).1
     have h2 := hD1 j hj hlj hMj b hbj
     omega
    ·rw [upd, if_neg hki] at hbk
     rw [getD_set_ne false (Ne.symm hki)] at hlk
     exact hD2 j k hj hk hlj hlk hjk hMj hMk b hbj hbk
theorem ap_self {n : Nat} (a0 : Act) (hd : ∀ j k, j < n → k < n → dstN ops j = dstN ops k → j = k) : ap ops n a0 (fun i => a0.tmps.getD (dstN ops i) undef) = a0 := by
 show ({ a0 with tmps := fil ops a0.tmps _ n } : Act) = a0
 have : fil ops a0.tmps (fun i => a0.tmps.getD (dstN ops i) undef) n = a0.tmps := by
  apply Array.ext_getElem?
  intro t
  by_cases hj : ∃ j, j < n ∧ dstN ops j = t
  ·obtain ⟨j, hjn, rfl⟩ := hj
   by_cases hs : dstN ops j < a0.tmps.size
   ·rw [fil_in _ _ j n hjn hd hs]
    simp [hs]
   ·rw [Array.getElem?_eq_none (by rw [fil_size]; omega), Array.getElem?_eq_none (by omega)]
  ·exact fil_out _ _ _ n (fun j hjn e => hj ⟨j, hjn, e⟩)
 rw [this]
def fil2 (T : Array Value) (vs : Nat → Value) (ds : List Nat) : Array Value := ds.zipIdx.foldl (fun t p => t.setIfInBounds p.1 (vs p.2)) T
theorem fil2_eq (T : Array Value) (vs : Nat → Value) : ∀ n, fil2 T vs ((List.range n).map (dstN ops)) = fil ops T vs n
 | 0 => rfl
 | n + 1 => by
  rw [fil_succ, ← fil2_eq T vs n]
  unfold fil2
  rw [List.range_succ, List.map_append, List.zipIdx_append, List.foldl_append]
  simp
theorem region_grow {id n : Nat} {Q : Exit → Act → World → Prop} {a0 : Act} {w0 : World} (ds : List Nat) (hm : P.follows .mixedOrders = true) (hB : growB ops n = true) (hds : (List.range n).map (dstN ops) = ds) (F : Nat → Value → World → Prop) (M : Nat → Bool) (hmono : ∀ i v w w', F i v w → Below w.heap.size w w' → F i v w')
  (hstep : ∀ i o, i < n → ops[i]? = some o → ∀ vs w, Below w0.heap.size w0 w → (∀ e ∈ o.after, Region.binds .any e = true → F e.on (vs e.on) w) → ∀ K : Act → World → Prop, (∀ v w', F i v w' → Below w.heap.size w w' → (M i = true → ∀ b, blk v = some b → w.heap.size ≤ b ∧ b < w'.heap.size) → K (({ a0 with tmps := fil2 a0.tmps vs ds } : Act).put o.dst v) w') → o.wp P { a0 with tmps := fil2 a0.tmps vs ds } w K Q)
  (hend : ∀ vs w, Below w0.heap.size w0 w → (∀ i, i < n → F i (vs i) w) → (∀ i j, i < n → j < n → i ≠ j → M i = true → M j = true → ∀ b, blk (vs i) = some b → blk (vs j) ≠ some b) → wpList P ops Q (ops.toList.drop n) { a0 with tmps := fil2 a0.tmps vs ds } w) : (Code.region id ops true).wp P Q a0 w0 := by
 have G := growB_spec hB
 have e : ∀ vs, ({ a0 with tmps := fil2 a0.tmps vs ds } : Act) = ap ops n a0 vs := fun vs => by
  rw [← hds, fil2_eq]
  rfl
 refine wp_region_any hm ?_
 have inv0 : HeadInv .any ops n (Array.replicate ops.size false) :=
  ⟨by simp, fun j oj _ hl => (by rw [getD_replicate_false] at hl; cases hl), fun t _ ht => getD_in (by simpa using ht) (getD_replicate_false _ _)⟩
 have H := any_of_grow (P := P) (Q := Q) (a0 := a0) (w0 := w0) G F M hmono
  (fun i o hi ho vs w hb hd K hK => by
   have := hstep i o hi ho vs w hb hd K (fun v w' h1 h2 h3 => by rw [e]; exact hK v w' h1 h2 h3)
   rwa [e] at this)
  (fun vs w hb hF hD => by have := hend vs w hb hF hD; rwa [e] at this)
  n (Array.replicate ops.size false) (fun i => a0.tmps.getD (dstN ops i) undef) w0.drew (by
  rw [List.countP_eq_length.2 (fun i _ => by rw [getD_replicate_false]; rfl), List.length_range]) inv0 (fun i _ hl => (by rw [getD_replicate_false] at hl; cases hl)) (Below.refl _ _).drew (fun i _ hl => (by rw [getD_replicate_false] at hl; cases hl)) (fun i j _ _ hl => (by rw [getD_replicate_false] at hl; cases hl))
 rw [ap_self a0 G.dis] at H
 have hlt := G.lt
 rwa [show n + (ops.size - n) = ops.size by omega] at H
theorem gr_val {o : Oper} {a : Act} {w w1 : World} {K : Act → World → Prop} {Q : Exit → Act → World → Prop} (v : Value) (hrun : (execOp a.eval o).run P w = .ok (.value v) w1) (h : K (a.put o.dst v) w1) : o.wp P a w K Q := by
 unfold Oper.wp
 rw [hrun]
 exact h
theorem gr_move {o : Oper} {a : Act} {w : World} {K : Act → World → Prop} {Q : Exit → Act → World → Prop} (x : Operand) (ho : o.op = .move x) (v : Value) (hx : a.eval x = v) (h : K (a.put o.dst v) w) : o.wp P a w K Q := by
 refine gr_val v ?_ h
 unfold execOp
 simp only [ho, hx]
 rfl
theorem gr_load {o : Oper} {a : Act} {w : World} {K : Act → World → Prop} {Q : Exit → Act → World → Prop} (ty : TypeId) (x : Operand) (ho : o.op = .load ty x) (ad : Addr) (hx : a.eval x = .pointer (some ad)) (v : Value) (hl : (loadVar ty ad).run P w = .ok v w) (h : K (a.put o.dst v) w) : o.wp P a w K Q := by
 refine gr_val v ?_ h
 unfold execOp
 simp only [ho, hx, Instr.loadAt, Instr.sureAddr, Sem.run_bind, Sem.run_pure, Result.andThen_ok, hl]
theorem gr_go {o : Oper} {a : Act} {w : World} {K : Act → World → Prop} {Q : Exit → Act → World → Prop} {f : FuncId} {fn : Func} {az : Array Operand} {ts : Array TypeId} (hf : P.funcs[f]? = some fn) (hname : (fn.name == "runtime.NumGoroutine") = false) (hb : fn.body.isSome = true) (args : Array Value)
  (hop : o.op = .call { callee := .value (.func f), args := az, argTypes := ts }) (hargs : az.map a.eval = args) (h : Calls P f args w fun e w' => ∃ v, e = .returned v ∧ K (a.put o.dst v) w') : o.wp P a w K Q := by
 have he : (callFunc f args).run P w = .ok (.enter f args) w := by
  have h1 : fn.name ≠ "runtime.NumGoroutine" := by simpa using hname
  obtain ⟨c, hc⟩ := Option.isSome_iff_exists.1 hb
  simp [callFunc, hf, h1, hc]
 have hrun : (execOp a.eval o).run P w = .ok (.enter f args) w := by
  unfold execOp
  simp [hop, resolve, Deferred.ofValue, invoke, Act.eval, hargs, he]
 unfold Oper.wp
 rw [hrun, Oper.upon_enter]
 refine h.mono fun e w'' hh => ?_
 obtain ⟨v, rfl, hk⟩ := hh
 exact hk
theorem gr_alloc {o : Oper} {a : Act} {w : World} {K : Act → World → Prop} {Q : Exit → Act → World → Prop} (t : TypeId) (z : Value) (ho : o.op = .alloc t) (hz : ∀ w, (zeroValue t).run P w = .ok z w) (h : K (a.put o.dst (.pointer (some ⟨w.heap.size, 0, none⟩))) (w.alloc (.cells z.cells t))) : o.wp P a w K Q := by
 refine gr_val _ ?_ h
 unfold execOp
 simp only [ho]
 simp [Instr.alloc, go_sem, hz]
end
end Go.Proofs.YtanabbjakacgbaaGreatDoor.Grow
namespace Go.Proofs.YtanabbjakacgbaaGreatDoor.Sp
open Go.RowKit Go.Proofs.YtanabbjakacgbaaGreatDoorW.PrintWords Go.Proofs.YtanabbjakacgbaaGreatDoorW.PrintLast Go.Proofs.YtanabbjakacgbaaGreatDoorW.PrintMore Go.Proofs.YtanabbjakacgbaaGreatDoor.PM Go.Proofs.YtanabbjakacgbaaGreatDoor.Grow
set_option linter.unusedVariables false
set_option linter.unusedSimpArgs false
set_option maxRecDepth 100000
def agree (a b : Sm) (n : Nat) : Bool := (List.range n).all fun i => decide (bitI a i = bitI b i)
theorem agree_t {a b : Sm} {n : Nat} (h : ∀ i, i < n → bitI a i = bitI b i) : agree a b n = true := by
 rw [agree, List.all_eq_true]
 intro i hi
 rw [h i (List.mem_range.1 hi)]
 simp
theorem agree_f {a b : Sm} {n : Nat} (i : Nat) (hi : i < n) (h : bitI a i ≠ bitI b i) : agree a b n = false := by
 by_cases hv : agree a b n = true
 ·rw [agree, List.all_eq_true] at hv
  have := hv i (List.mem_range.2 hi)
  exact absurd (by simpa using this) h
 ·simpa using hv
def rightB (k : ByteArray) (n : Nat) (e : Int) (l : Lf) : Bool :=
 decide (n ≤ 256) && (if e = 0 then decide (l = zL) else if e = 1 then decide (l.k = k) else agree (hk k) (hk l.k) n && decide (e = 2) && decide (¬ l.k = k))
theorem run_loadVar_one {P : Program} {w : World} {ty : TypeId} {ad : Addr} {v : Value} {d : TypeDesc} (hu : P.underlying ty = some d) (hd : d.isRow = false) (hc : w.cell? ad = some v) : (loadVar ty ad).run P w = .ok v w := by
 have hagg : (isAgg ty).run P w = .ok false w := by
  unfold isAgg
  rw [Sem.run_bind, run_underlying hu w]
  cases d <;> simp_all
 simp [loadVar, Sem.run_bind, hagg, go_sem, hc]
theorem str_made {w : World} {s : ByteArray} (hs : s.size ≤ 1000000) : ∃ b c, Value.slice (some ⟨w.heap.size, 0, none⟩) s.size (grownCap w s.size 0 5) = .slice (some ⟨b, 0, none⟩) s.size c ∧ s.size ≤ c ∧ Kd.C (Kd.int .u8) (Lib.bytesWorld w 5 s) (some ⟨b, 0, none⟩) (bytesOf s).length (bytesOf s) :=
 ⟨_, _, rfl, grownCap_ge _ _ _ _, string_C (W := w) hs⟩
theorem zero27 (w : World) : (zeroValue 30).run Tryz.prog w = .ok (.agg (cS zS)) w := by
 obtain ⟨i, hi, hz⟩ := Option.map_eq_some_iff.1 infoS
 simp only [Prod.mk.injEq] at hz
 simp [zeroValue, typeInfo, hi, hz.1, go_sem]
def rightF (g : Nat) (k1 k2 : ByteArray) (B : Nat) (i : Nat) (v : Value) (w : World) : Prop :=
 match i with
 | 0 => v = .string k1
 | 1 => ∃ b c, v = .slice (some ⟨b, 0, none⟩) k1.size c ∧ k1.size ≤ c ∧ Kd.C (Kd.int .u8) w (some ⟨b, 0, none⟩) (bytesOf k1).length (bytesOf k1)
 | 2 => v = .agg (cS (hk k1))
 | 3 => v = .pointer (some ⟨g, 2, none⟩)
 | 4 => v = .pointer (some ⟨g, 2, none⟩)
 | 5 => v = .string k2
 | 6 => ∃ b c, v = .slice (some ⟨b, 0, none⟩) k2.size c ∧ k2.size ≤ c ∧ Kd.C (Kd.int .u8) w (some ⟨b, 0, none⟩) (bytesOf k2).length (bytesOf k2)
 | 7 => v = .agg (cS (hk k2))
 | _ => ∃ b, v = .pointer (some ⟨b, 0, none⟩) ∧ B ≤ b ∧ w.heap[b]? = some (.cells (cS zS) 30 (0, 0))
theorem rightF_mono (g : Nat) (k1 k2 : ByteArray) (B : Nat) : ∀ i v w w', rightF g k1 k2 B i v w → Below w.heap.size w w' → rightF g k1 k2 B i v w' := by
 intro i v w w' h hb
 unfold rightF at h ⊢
 split at h
 ·exact h
 ·obtain ⟨b, c, h1, h2, h3⟩ := h
  exact ⟨b, c, h1, h2, Kd.C_below h3 hb⟩
 ·exact h
 ·exact h
 ·exact h
 ·exact h
 ·obtain ⟨b, c, h1, h2, h3⟩ := h
  exact ⟨b, c, h1, h2, Kd.C_below h3 hb⟩
 ·exact h
 ·obtain ⟨b, h1, h2, h3⟩ := h
  exact ⟨b, h1, h2, (hb.block b (Array.getElem?_eq_some_iff.1 h3).1).trans h3⟩
end Go.Proofs.YtanabbjakacgbaaGreatDoor.Sp

