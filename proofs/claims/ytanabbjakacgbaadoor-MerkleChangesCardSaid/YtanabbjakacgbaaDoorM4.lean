/- Put together by this session's program out of: Rr Rs Rt Gr Ru Rv Rw Rx. -/
import Derived.Below
import Derived.RegionTactic
import Derived.Test.YtanabbjakacgbaaDoorM3
import Derived.Test.YtanabbjakacgbaaDoorM0
namespace Go.Proofs.YtanabbjakacgbaaDoor.Sp
open Go.RowKit Go.Shelf Go.Proofs.YtanabbjakacgbaaDoorW.PrintWords Go.Proofs.YtanabbjakacgbaaDoorW.PrintLast Go.Proofs.YtanabbjakacgbaaDoorW.PrintMore Go.Proofs.YtanabbjakacgbaaDoor.PM Go.Proofs.YtanabbjakacgbaaDoor.Rng
set_option linter.unusedVariables false
set_option linter.unusedSimpArgs false
set_option maxRecDepth 100000
structure WayAt (w w' : World) (gl gs ge gend : Nat) (sv : Value) (s : Sm) : Prop where
  l0 : w.heap.size ≤ gl
  s0 : w.heap.size ≤ gs
  e0 : w.heap.size ≤ ge
  ls : gl ≠ gs
  le : gl ≠ ge
  bl : Boxed w' gl 70 sv
  bs : w'.heap[gs]? = some (.cells (cS s) 27 (0, 0))
  be : Boxed w' ge 77 (.pointer (some ⟨gend, 0, none⟩))
  below : Below w.heap.size w w'
set_option maxHeartbeats 1000000 in
theorem way_calls (A0 : Option Addr) (n0 c0 : Nat) (k : ByteArray) (hk1 : k.size ≤ 100000) (gend : Nat) (w : World) (hW : Words w) :
    Calls Tryd.prog 41 #[.slice A0 n0 c0, .string k, .pointer (some ⟨gend, 0, none⟩)] w fun e w' => ∃ gl gs ge, e = .returned (.func (.func 69) #[] #[.pointer (some ⟨gl, 0, none⟩), .pointer (some ⟨gs, 0, none⟩), .pointer (some ⟨ge, 0, none⟩)]) ∧ WayAt w w' gl gs ge gend (.slice A0 n0 c0) (hk k) := by
  obtain ⟨g, hg⟩ : ∃ g, g = w.heap.size := ⟨_, rfl⟩
  obtain ⟨wb, hwb⟩ : ∃ wb, wb = (w.alloc (.cells #[.slice A0 n0 c0] 70)).alloc (.cells #[.pointer (some ⟨gend, 0, none⟩)] 77) := ⟨_, rfl⟩
  have h0 : Boxed wb g 70 (.slice A0 n0 c0) := by rw [hwb]; exact (h_old (by rw [size_alloc]; omega)).trans (h_new hg)
  have h1 : Boxed wb (g + 1) 77 (.pointer (some ⟨gend, 0, none⟩)) := by rw [hwb]; exact h_new (by rw [size_alloc, hg])
  have hb : Below w.heap.size w wb := by rw [hwb]; exact below_alloc (below_alloc (Below.refl _ _) _) _
  have hs : wb.heap.size = g + 2 := by rw [hwb, size_alloc, size_alloc, hg]
  have HB := Aside0.mk (⟨h0, h1, hb, hs, hW.below hb, hg⟩ : _ ∧ _ ∧ _ ∧ _ ∧ _ ∧ _)
  have HWB := Aside0.mk hwb.symm
  clear h0 h1 hb hs hwb hW
  have HG := Aside0.mk hg
  clear hg
  obtain ⟨s, hs⟩ : ∃ s, hk k = s := ⟨_, rfl⟩
  rw [hs]
  have HS := Aside0.mk hs
  clear hs
  go_enter Tryd.func41, Tryd.ntmps41
  go_wp2_with (first
    | ((with_reducible refine gate_dst (N := 9) rfl ?_); rw [HWB.out, ← HG.out]; (refine wpList_str rfl (.tmp 8) rfl k rfl Tryd.underlying9 Tryd.underlying50 Tryd.underlying5 ?_))
    | (go_at_call 65; (refine (sumKm_calls k (by omega) wb HB.out.2.2.2.2.1).mono ?_); rw [HS.out]; rintro e w2 ⟨rfl, hb2⟩; have hb3 := below_tr (bytes_below' wb k) hb2 (bytes_below' wb k).size; have H2 := Aside0.mk hb3; clear hb2 hb3)
    | ((with_reducible refine gate_store (t := 27) rfl ?_); (refine at_world (w' := w2.alloc (.cells (cS zS) 27)) (zw w2).symm ?_); (refine wpList_store_row rfl 27 (.tmp 7) (.tmp 10) rfl w2.heap.size (cS s) rfl rfl 27 (cS zS) (h_new rfl) ?g3 ?g4 (encI_one _) ?_); (case g3 => rw [cS_size]; kernel_rfl); (case g4 => rw [cS_size, cS_size])))
  go_ret
  have hz2 := H2.out.size
  have hz := HB.out.2.2.2.1
  refine ⟨g, w2.heap.size, g + 1, rfl, ⟨by have := HG.out; omega, by have := HG.out; omega, by have := HG.out; omega, by omega, by omega, ?_, setRow_heap _ _ _ _ _ _ (h_new rfl), ?_, ?_⟩⟩
  · exact (setRow_other _ _ _ _ (by omega)).trans ((h_old (by omega)).trans ((H2.out.block g (by omega)).trans HB.out.1))
  · exact (setRow_other _ _ _ _ (by omega)).trans ((h_old (by omega)).trans ((H2.out.block (g + 1) (by omega)).trans HB.out.2.1))
  · exact below_setRow (below_alloc (HB.out.2.2.1.trans (H2.out.mono (by have := HG.out; omega))) _) (by have := HG.out; omega)
end Go.Proofs.YtanabbjakacgbaaDoor.Sp
namespace Go.Proofs.YtanabbjakacgbaaDoor.Sp
open Go.RowKit Go.Shelf Go.Proofs.YtanabbjakacgbaaDoorW.PrintWords Go.Proofs.YtanabbjakacgbaaDoorW.PrintLast Go.Proofs.YtanabbjakacgbaaDoorW.PrintMore Go.Proofs.YtanabbjakacgbaaDoor.PM Go.Proofs.YtanabbjakacgbaaDoor.Rng
set_option linter.unusedVariables false
set_option linter.unusedSimpArgs false
set_option maxRecDepth 100000
theorem R_aside {α : Type} {d : Kd α} {e : Nat} {A B : World} {base b : Nat} {ok : Nat → Prop} {v : Value} {xs : List α} {T : Nat → Prop} (h : d.R e A base ok v xs) (hs : Rng.Aside T b A B) (hT : ∀ k, T k → k < base) : d.R e B base ok v xs :=
  Kd.R_mono (Kd.R_move (Kd.R_bound h) (fun k hk => hs.same k hk.2.2.1 (fun h' => h'.elim (fun ht => by have := hT k ht; omega) (fun h2 => by
    obtain ⟨_, o, ho, hc⟩ := h2
    obtain ⟨q, _, cells, hcell⟩ := hk.2.2.2
    rw [hcell] at ho; cases ho; cases hc)))) (fun _ hk => hk.1)
def markOf (D : Nat) : Deferred := { target := .collected D, args := #[] }
theorem leaves_marks {F : Fence} {n : Nat} {P : Program} {fn : Func} {tmps : Array Value} {R : Ending → World → Prop} (b : Nat) : ∀ (DM : List Nat) (w : World), DM.Nodup → (∀ D ∈ DM, b ≤ D ∧ w.heap[D]? = some (.deferred (some []))) →
    (∀ w', (∀ k, ¬ k ∈ DM → w'.heap[k]? = w.heap[k]?) → w'.heap.size = w.heap.size → w'.os = w.os → w'.tape = w.tape → w'.output = w.output → LeavesIn F n P fn tmps R [] .returning w') → LeavesInM F n P fn tmps R (DM.map markOf) .returning w
  | [], w, _, _, h => h w (fun _ _ => rfl) rfl rfl rfl rfl
  | D :: DM, w, hn, hm, h => by
    rw [List.nodup_cons] at hn
    refine ⟨by simp, .inl ⟨D, _, rfl, run_takeDeferred (hm D List.mem_cons_self).2, ?_⟩⟩
    refine leaves_marks b DM _ hn.2 (fun D' hD' => ⟨(hm D' (List.mem_cons_of_mem _ hD')).1, ?_⟩) (fun w' h1 h2 h3 h4 h5 => ?_)
    · rw [World.putObj_heap_other (fun e => hn.1 (by first | (rw [← e]; exact hD') | (rw [e]; exact hD')))]
      exact (hm D' (List.mem_cons_of_mem _ hD')).2
    · refine h w' (fun k hk => ?_) (h2.trans (by simp)) h3 h4 h5
      rw [List.mem_cons, not_or] at hk
      rw [h1 k hk.2, World.putObj_heap_other hk.1]
theorem wpListIn_store_row {F : Fence} {n : Nat} {P : Program} {ops : Array Oper} {Q : Exit → Act → World → Prop} {rest : List Oper} {o : Oper} {a : Act} {w : World} (hg : o.guard = none) (ty : TypeId) (x y : Operand) (ho : o.op = .store ty x y)
    (g : Nat) (cells : Array Value) (hx : a.eval x = .pointer (some ⟨g, 0, none⟩)) (hy : a.eval y = .agg cells) (t : TypeId) (old : Array Value) (hgr : w.heap[g]? = some (.cells old t (0, 0))) (hi : (P.info? ty).map (·.size) = some cells.size) (hold : old.size = cells.size) (h1 : cells.all (·.oneCell') = true)
    (h : wpListIn F n P ops Q rest (a.put o.dst undef) (w.setRow g cells)) : wpListIn F n P ops Q (o :: rest) a w := by
  refine wpListIn_plain hg fun K hK => ?_
  unfold Oper.wpIn
  refine ⟨by simp [Oper.about, ho], ?_⟩
  have hrun : (execOp a.eval o).run P w = .ok .skip (w.setRow g cells) := by
    unfold execOp
    simp only [ho, hx, hy, Instr.storeAt, Instr.sureAddr, Sem.run_bind, Sem.run_pure, Result.andThen_ok, run_storeVar_row w g t ty old cells hgr hi hold h1]
  rw [Oper.semAt_plain F _ _ (by rw [ho]; intro c hc'; cases hc'), hrun]
  exact hK _ _ h
end Go.Proofs.YtanabbjakacgbaaDoor.Sp
namespace Go.Proofs.YtanabbjakacgbaaDoor.Sp
open Go.RowKit Go.Shelf Go.Proofs.YtanabbjakacgbaaDoorW.PrintWords Go.Proofs.YtanabbjakacgbaaDoorW.PrintLast Go.Proofs.YtanabbjakacgbaaDoorW.PrintMore Go.Proofs.YtanabbjakacgbaaDoor.PM Go.Proofs.YtanabbjakacgbaaDoor.Rng
set_option linter.unusedVariables false
set_option linter.unusedSimpArgs false
set_option maxRecDepth 100000
attribute [local go_sem] Oper.semAt_some
theorem callsIn_world {F : Fence} {n : Nat} {P : Program} {f : FuncId} {args : Array Value} {w w' : World} {R : Ending → World → Prop} (h : w = w') (H : CallsIn F n P f args w' R) : CallsIn F n P f args w R := by rw [h]; exact H
theorem take_step {α : Type} {l : List α} {i : Nat} {x : α} (h : l[i]? = some x) : l.take (i + 1) = l.take i ++ [x] := by
  rw [List.take_add_one, h]; rfl
theorem othersF_len : ∀ (k : Nat) (l : List It) (s : Sm) (d : Nat), (othersF k l s d).length ≤ k
  | 0, l, s, d => by rw [othersF]; exact Nat.le_refl _
  | k + 1, l, s, d => by
    rw [othersF]
    by_cases h : endsOf l d = true
    · rw [if_pos h]; exact Nat.zero_le _
    · rw [if_neg h, List.length_cons]
      have := othersF_len k (halfOf l d (bitI s d)) s (d + 1)
      omega
structure ProveI (w : World) (g B : Nat) (PA : List Sm) (i : Nat) (W : World) (v : Value) : Prop where
  own : kS.R 27 W B (fun _ => True) v (PA.take i)
  p : W.heap[g + 1]? = some (.cells (cP v 0 zL) 36 (0, 0))
  r : W.heap[g]? = some (.cells (cP (.slice none 0 0) 0 zL) 36 (0, 0))
  below : Below w.heap.size w W
  size : B ≤ W.heap.size
theorem ProveI.aside {w A C : World} {g B gl gend : Nat} {PA : List Sm} {i : Nat} {v : Value} (h : ProveI w g B PA i A v) (hs : Rng.Aside (Tw gl gend) B A C) (h1 : g + 1 < gl) (h2 : g + 1 < gend) (h3 : gl < B) (h4 : gend < B) (h5 : w.heap.size ≤ g) : ProveI w g B PA i C v := by
  have hT : ∀ k, Tw gl gend k → k < B := fun k hk => by rcases hk with rfl | rfl <;> assumption
  have key : ∀ k, k ≤ g + 1 → k < A.heap.size → C.heap[k]? = A.heap[k]? := fun k hk hlt => hs.same k hlt (fun h' => by
    rcases h' with (rfl | rfl) | ⟨h6, _⟩ <;> omega)
  have hz := h.size
  refine ⟨R_aside h.own hs hT, (key _ (by omega) (Array.getElem?_eq_some_iff.1 h.p).1).trans h.p, (key _ (by omega) (Array.getElem?_eq_some_iff.1 h.r).1).trans h.r, ?_, Nat.le_trans h.size hs.size⟩
  exact ⟨hs.os.trans h.below.os, hs.tape.trans h.below.tape, hs.output.trans h.below.output, Nat.le_trans h.below.size hs.size, fun k hk => (key k (by omega) (by have := h.below.size; omega)).trans (h.below.block k hk)⟩
set_option maxHeartbeats 1000000 in
theorem Provem_calls (l : List Lf) (k : ByteArray) (A : Option Addr) (c : Nat) (w : World) (hW : Words w) (hr : kL.C w A l.length l) (hc : l.length ≤ c) (hl : SmL l) (hk1 : k.size ≤ 100000) :
    Calls Tryd.prog 14 #[.slice A l.length c, .string k] w fun e w' => ∃ A' c', e = .returned (.agg (cP (.slice A' (proveOf l k).p.length c') (proveOf l k).e (proveOf l k).l)) ∧ kS.C w' A' (proveOf l k).p.length (proveOf l k).p ∧ (proveOf l k).p.length ≤ c' ∧ Below w.heap.size w w' := by
  have hu36 := Tryd.underlying36
  obtain ⟨g, hg⟩ : ∃ g, g = w.heap.size := ⟨_, rfl⟩
  obtain ⟨wb, hwb⟩ : ∃ wb, ((w.alloc (.cells (cP (.slice none 0 0) 0 zL) 36)).alloc (.cells (cP (.slice none 0 0) 0 zL) 36)).alloc (.cells #[.slice none 0 0] 70) = wb := ⟨_, rfl⟩
  have h0 : wb.heap[g]? = some (.cells (cP (.slice none 0 0) 0 zL) 36 (0, 0)) := by rw [← hwb, h_old (by simp only [size_alloc]; omega), h_old (by simp only [size_alloc]; omega)]; exact h_new hg
  have h1 : wb.heap[g + 1]? = some (.cells (cP (.slice none 0 0) 0 zL) 36 (0, 0)) := by rw [← hwb, h_old (by simp only [size_alloc]; omega)]; exact h_new (by rw [size_alloc, hg])
  have h2 : Boxed wb (g + 2) 70 (.slice none 0 0) := by rw [← hwb]; exact h_new (by rw [size_alloc, size_alloc, hg])
  have hb : Below w.heap.size w wb := by rw [← hwb]; exact below_alloc (below_alloc (below_alloc (Below.refl _ _) _) _) _
  have HW0 := Aside0.mk hW
  have hs : wb.heap.size = g + 3 := by rw [← hwb, size_alloc, size_alloc, size_alloc, hg]
  have HB := Aside0.mk (⟨h0, h1, h2, hb, hs, Kd.C_below hr hb, hW.below hb⟩ : _ ∧ _ ∧ _ ∧ _ ∧ _ ∧ _ ∧ _)
  have HWB := Aside0.mk hwb
  clear h0 h1 h2 hb hs hwb hr hW
  have HG := Aside0.mk hg
  clear hg
  have HL := Aside0.mk hl
  clear hl
  obtain ⟨L, hL⟩ : ∃ L, L = itemsOf l := ⟨_, rfl⟩
  obtain ⟨s, hs⟩ : ∃ s, hk k = s := ⟨_, rfl⟩
  have HE := Aside0.mk (And.intro hL hs)
  have HLS := Aside0.mk (show SmI L by rw [hL]; exact HL.out.items)
  clear hL hs
  refine (callsIn_wide (n := 4)).1 ?_
  refine callsIn_of_wp_marks Tryd.func14 rfl trivial ?_ rfl
  simp only [Tryd.ntmps14, List.size_toArray, List.length_cons, List.length_nil, Nat.reduceAdd, Nat.reduceSub, Array.replicate_succ, Array.replicate_zero, List.push_toArray, List.append_toArray, List.nil_append, List.cons_append]
  gi_wp2
  rw [← HG.out]
  refine ⟨trivial, callsIn_world (w' := wb) HWB.out ?_⟩
  refine (callsIn_wide.2 (itemsm_calls l A c wb HB.out.2.2.2.2.2.2 HB.out.2.2.2.2.2.1 hc HL.out.small)).mono ?_
  rw [← HE.out.1]
  rintro e w1 ⟨v1, rfl, hv1, hb1⟩
  obtain ⟨A1, c1, rfl, hc1, _⟩ := Kd.R_reads hv1
  have H1 := Aside0.mk (⟨hv1, hb1, HB.out.2.2.2.2.2.2.below hb1⟩ : _ ∧ _ ∧ _)
  clear hv1 hb1
  gi_wp2
  refine ⟨trivial, (callsIn_wide.2 (way_calls A1 L.length c1 k hk1 (g + 2) w1 H1.out.2.2)).mono ?_⟩
  rw [HE.out.2]
  rintro e w2 ⟨gl, gs, ge, rfl, hway⟩
  have HWY := Aside0.mk hway
  clear hway
  gi_wp2
  have hz1 := H1.out.2.1.size
  have hzb := HB.out.2.2.2.2.1
  have hl0 := HWY.out.l0
  have hs0 := HWY.out.s0
  have he0 := HWY.out.e0
  have hlt := HWY.out.bl.lt
  have hB2 : Below (g + 3) wb w2 := (H1.out.2.1.mono (by omega)).trans (HWY.out.below.mono (by omega))
  have hend : Boxed w2 (g + 2) 70 (.slice none 0 0) := (hB2.block _ (by omega)).trans HB.out.2.2.1
  have hL2 : kI.R 79 w2 0 (fun _ => True) (.slice A1 L.length c1) L := Kd.R_lower (Kd.R_below H1.out.1 HWY.out.below) (Nat.zero_le _)
  have hgv := way_gives 3 (by omega) gl gs ge (g + 2) HWY.out.ls HWY.out.le (by omega) (by omega) (by omega) L s A1 c1 w2 HLS.out HWY.out.bl hL2 HWY.out.bs HWY.out.be _ hend
  obtain ⟨PA, hPA⟩ : ∃ PA, PA = (wayOf L s).1 := ⟨_, rfl⟩
  obtain ⟨O, hO⟩ : ∃ O, O = othersF 256 L s 0 := ⟨_, rfl⟩
  have hPO : PA.length = O.length ∧ (∀ i x, O[i]? = some x → PA[i]? = some (hashOf x (i + 1))) ∧ (∀ x ∈ O, SmI x) ∧ O.length ≤ 256 := by
    have h := wayF_others 256 L s 0
    rw [hPA, hO]
    exact ⟨h.1, fun i x hx => by have := h.2 i x hx; rwa [Nat.zero_add] at this, fun x hx => othersF_sm HLS.out x hx, othersF_len 256 L s 0⟩
  rw [← hO] at hgv
  have HPO := Aside0.mk hPO
  have HPA := Aside0.mk hPA
  clear hPO hO hPA
  have hW2 : Words w2 := H1.out.2.2.below HWY.out.below
  have hI0 : ProveI w g w2.heap.size PA 0 w2 (.slice none 0 0) := ⟨by rw [List.take_zero]; exact Kd.R_nil _ _ _ _ _, (hB2.block _ (by omega)).trans HB.out.2.1, (hB2.block _ (by omega)).trans HB.out.1, HB.out.2.2.2.1.trans (hB2.mono (by have := HG.out; omega)), Nat.le_refl _⟩
  have hgw := HG.out
  have hge : w.heap.size ≤ g := by omega
  have hg1 : g + 1 < gl := by omega
  clear hgw
  refine rangeOver2 (F := Fence.wide) rfl (by omega) (gf := 69) (lb := #[.pointer (some ⟨gl, 0, none⟩), .pointer (some ⟨gs, 0, none⟩), .pointer (some ⟨ge, 0, none⟩)]) rfl trivial (enters_ Tryd.func69 (by kernel_rfl) rfl) (E := Ew w2.heap.size) (S := Sw gl gs ge (g + 2)) (T := Tw gl (g + 2)) (xs := O) (Post := fun W => ∃ v, Boxed W (g + 2) 70 v ∧ kI.R 79 W 0 (fun _ => True) v (wayOf L s).2) hgv
    (fun k o h => h.1) (fun k hk => by rcases hk with rfl | rfl <;> omega) (fun i x vs W hv => by obtain ⟨v, rfl, _⟩ := hv; rfl)
    (fun i W => ∃ v, ProveI w g w2.heap.size PA i W v) ?hI ⟨_, hI0⟩
    (fun i x a' W => ∃ v, kI.R 79 W w2.heap.size (fun _ => True) v x ∧ a' = { tmps := #[.slice A l.length c, .string k, undef, undef, .pointer (some ⟨g, 0, none⟩), .pointer (some ⟨g + 1, 0, none⟩), .pointer (some ⟨g + 2, 0, none⟩), .int .i64 (i : Int), v, .slice A l.length c, .slice A1 L.length c1, .string k, .func (.func 69) #[] #[.pointer (some ⟨gl, 0, none⟩), .pointer (some ⟨gs, 0, none⟩), .pointer (some ⟨ge, 0, none⟩)], .int .i64 (i : Int), v, undef, undef, undef, undef, undef, undef, undef, undef, undef, undef, undef, undef, undef, undef, undef, undef, undef, undef, undef, undef, undef, undef, undef, undef, undef, undef], defers := [] })
    ?hAx ?hassign ?hbody ?hdone
  case hI =>
    rintro i X Y ⟨v, h⟩ hs
    exact ⟨v, h.aside hs hg1 (by omega) hlt (by omega) hge⟩
  case hAx =>
    rintro i x a' X Y ⟨v, hv, rfl⟩ hs
    exact ⟨v, R_aside hv hs (fun k hk => by rcases hk with rfl | rfl <;> omega), rfl⟩
  case hassign =>
    rintro lp i x vs W K hx ⟨v, hv⟩ ⟨u, rfl, hu⟩ hsz hK
    simp only [List.zip_toArray, List.zip_cons_cons, List.zip_nil_right, List.foldl_toArray', List.foldl_cons, List.foldl_nil]
    gi_wp2
    exact hK _ _ (KeepsFrom.refl _ _) (fun k o h _ => h) ⟨v, hv⟩ ⟨u, hu, rfl⟩
  case hbody =>
    rintro lp i x a' W hlp hloop hx ⟨v, hv⟩ ⟨u, hu, rfl⟩ hsz
    obtain ⟨A9, c9, rfl, _, _⟩ := Kd.R_reads hv.own
    obtain ⟨A3, c3, rfl, hc3, hr3⟩ := Kd.R_reads hu
    obtain ⟨P, hP⟩ : ∃ P, P = PA.take i := ⟨_, rfl⟩
    have hi := (List.getElem?_eq_some_iff.1 hx).1
    have hi2 : i < 256 := Nat.lt_of_lt_of_le hi HPO.out.2.2.2
    obtain ⟨p, hp⟩ : ∃ p, hashOf x (i + 1) = p := ⟨_, rfl⟩
    have hPs := take_step (HPO.out.2.1 i x hx)
    have hPl : P.length ≤ 1000000 := by rw [hP, List.length_take]; omega
    have hsm := HPO.out.2.2.1 x (List.mem_of_getElem? hx)
    rw [hp] at hPs
    have hown := hv.own
    have hvp := hv.p
    rw [← hP] at hPs hown hvp
    have K6 : wrap64 ((i : Int) + 1) = ((i + 1 : Nat) : Int) := by unfold wrap64; omega
    have hc0 := cell_P0 hvp
    have HWW : Words W := HW0.out.below hv.below
    have HQ := Aside0.mk (⟨hPs, hown, hc0, HWW, hr3, hsm, hp, K6, hvp, hv.r, hv.below, hv.size⟩ : _ ∧ _ ∧ _ ∧ _ ∧ _ ∧ _ ∧ _ ∧ _ ∧ _ ∧ _ ∧ _ ∧ _)
    clear hPs hown hc0 HWW hr3 hsm hp K6 hx hv hu hP hvp
    gi_wp2
    refine startR_ (n := 10) (S := fun w' => Below W.heap.size W w') (ds := [7, 8, 9]) #[false, false, false, false, false, false, false, false, false, false] (by kernel_rfl) (by kernel_rfl) (fun ⟨_, _, h⟩ => by cases h.1) rfl rfl (Below.refl _ _).drew (fun hHeld => ?_)
    refine pure_ (i := 0) (N := some 15) (v := ?_) (a' := ?_) #[true, false, false, false, false, false, false, false, false, false] rfl rfl (by kernel_rfl) (fun _ _ _ h => h) (Or.inl ⟨by rfl, ?_⟩) ?_ ?_
    rotate_left
    · intro w'
      go_simp
      with_reducible rfl
    rotate_left
    · simp only [Act.put, List.setIfInBounds_toArray, List.set_cons_zero, List.set_cons_succ, i64_w, i32_w]
      rfl
    refine take_ (i := 1) (N := some 16) (v := ?_) (a' := ?_) #[true, true, false, false, false, false, false, false, false, false] rfl rfl (by kernel_rfl) (fun _ _ _ h => h) (Or.inl ⟨by rfl, ?_⟩) hHeld ?_ ?_
    rotate_left
    · intro w' hS
      have hx := (hS.cell (World.block_lt_of_cell? _ _ HQ.out.2.2.1)).trans HQ.out.2.2.1
      go_simp
      with_reducible rfl
    rotate_left
    · simp only [Act.put, List.setIfInBounds_toArray, List.set_cons_zero, List.set_cons_succ, i64_w, i32_w]
      rfl
    refine pure_ (i := 2) (N := some 17) (v := ?_) (a' := ?_) #[true, true, true, false, false, false, false, false, false, false] rfl rfl (by kernel_rfl) (fun _ _ _ h => h) (Or.inl ⟨by rfl, ?_⟩) ?_ ?_
    rotate_left
    · intro w'
      go_simp
      with_reducible rfl
    rotate_left
    · simp only [Act.put, List.setIfInBounds_toArray, List.set_cons_zero, List.set_cons_succ, i64_w, i32_w]
      rfl
    refine pure_ (i := 3) (N := some 18) (v := ?_) (a' := ?_) #[true, true, true, true, false, false, false, false, false, false] rfl rfl (by kernel_rfl) (fun _ _ _ h => h) (Or.inl ⟨by rfl, ?_⟩) ?_ ?_
    rotate_left
    · intro w'
      go_simp
      with_reducible rfl
    rotate_left
    · simp only [Act.put, List.setIfInBounds_toArray, List.set_cons_zero, List.set_cons_succ, i64_w, i32_w]
      rfl
    refine pure_ (i := 4) (N := some 19) (v := ?_) (a' := ?_) #[true, true, true, true, true, false, false, false, false, false] rfl rfl (by kernel_rfl) (fun _ _ _ h => h) (Or.inl ⟨by rfl, ?_⟩) ?_ ?_
    rotate_left
    · intro w'
      go_simp
      rw [i64_w, HQ.out.2.2.2.2.2.2.2.1]
      try with_reducible rfl
    rotate_left
    · simp only [Act.put, List.setIfInBounds_toArray, List.set_cons_zero, List.set_cons_succ, i64_w, i32_w]
      rfl
    refine one_ (i := 5) (N := some 20) #[true, true, true, true, true, true, false, false, false, false] rfl rfl (by kernel_rfl) (by decide) (fun K hK => ?_)
    refine goes_ Tryd.func38 (by kernel_rfl) rfl #[.slice A3 x.length c3, .int .i64 ((i + 1 : Nat) : Int)] (by rfl) rfl rfl (by simp only [List.map_toArray, List.map_cons, List.map_nil]; rfl) ?_
    refine (hashm_calls x (i + 1) hi2 A3 c3 _ HQ.out.2.2.2.2.2.1 (HQ.out.2.2.2.1.below hHeld) (Kd.C_below HQ.out.2.2.2.2.1 hHeld) hc3).mono ?_
    rw [HQ.out.2.2.2.2.2.2.1]
    rintro e w5 ⟨rfl, hb5⟩
    refine ⟨_, rfl, ?_⟩
    refine hK.out _ _ (below_tr hHeld hb5 hHeld.size) (fun hHeld => ?_)
    clear hK K
    refine norm_ (a' := ?_) ?_ ?_
    rotate_left
    · show Act.put _ (some 20) _ = _
      simp only [Act.put, List.setIfInBounds_toArray, List.set_cons_zero, List.set_cons_succ, i64_w, i32_w]
      rfl
    refine one_ (i := 6) (N := some 21) #[true, true, true, true, true, true, true, false, false, false] rfl rfl (by kernel_rfl) (by decide) (fun K hK => ?_)
    refine value_ (by rfl) rfl (bs1S_run (.tmp 20) rfl p rfl w5) ?_
    refine hK.out _ _ (below_tr hHeld (below_alloc (Below.refl _ _) _) hHeld.size) (fun hHeld => ?_)
    clear hK K
    refine norm_ (a' := ?_) ?_ ?_
    rotate_left
    · show Act.put _ (some 21) _ = _
      simp only [Act.put, List.setIfInBounds_toArray, List.set_cons_zero, List.set_cons_succ, i64_w, i32_w]
      rfl
    refine tail_ 7 (by kernel_rfl) ?_
    simp only [List.toList_toArray, List.drop_succ_cons, List.drop_zero]
    rename_i _ hHeld2
    have hw5 : Below W.heap.size W w5 := hHeld2
    clear hHeld hHeld2 hb5
    have hown5 := Kd.R_below HQ.out.2.1 hw5
    have hsz5 := hw5.size
    refine app_S2 (wa := W) rfl (.tmp 16) (.tmp 21) rfl (.slice A9 P.length c9) P p rfl rfl w2.heap.size hown5 (hw5.mono hsz) (Nat.le_trans hsz hsz5) hPl ?_
    intro v6 w6 hr6 hb6 hg6
    obtain ⟨A6, c6, e6, _, _⟩ := Kd.R_reads hr6
    rw [List.length_append, List.length_singleton] at e6
    subst e6
    have h65 := (hb6.block (g + 1) (by omega)).trans HQ.out.2.2.2.2.2.2.2.2.1
    have hx0 := cell_P0 h65
    have hf0 := froz_P 0 h65
    go_wp2
    have hk1 : ∀ k, k < W.heap.size → k ≠ g + 1 → some k ≠ (Value.slice A9 P.length c9).ownBlock → (w6.setCell ⟨g + 1, 0, none⟩ (.slice A6 (P.length + 1) c6)).heap[k]? = W.heap[k]? := fun k hk h1 h2 => (heap_setCell_ne h1).trans ((hg6.block k (by omega) h2).trans (hw5.block k hk))
    have hob := (Kd.R_bound HQ.out.2.1).1
    have hsz6 := hg6.size
    have hsz7 : (w6.setCell ⟨g + 1, 0, none⟩ (.slice A6 (P.length + 1) c6)).heap.size = w6.heap.size := size_setCell _ _ _
    refine ⟨⟨by omega, fun k o hk ho hoc => (hk1 k (Array.getElem?_eq_some_iff.1 ho).1 ?_ ?_).trans ho⟩, fun k o ho hso => (hk1 k (Array.getElem?_eq_some_iff.1 ho).1 ?_ ?_).trans ho, .slice A6 (P.length + 1) c6, ?_⟩
    · omega
    · intro e
      obtain ⟨_, _, _, q, _, cells, hcl⟩ := hob k e.symm
      rw [hcl] at ho; cases ho; cases hoc
    · rintro rfl
      rcases hso.2 with h | h | h | h | ⟨cells, fr, h⟩
      · omega
      · omega
      · omega
      · omega
      · rw [h, HQ.out.2.2.2.2.2.2.2.2.1] at ho
        injection ho with ho
        injection ho with _ ho _
        exact absurd ho (by decide)
    · intro e
      obtain ⟨_, hb1, _, q, hq, cells, hcl⟩ := hob k e.symm
      obtain rfl := List.mem_singleton.1 hq
      rcases hso.2 with h | h | h | h | ⟨cells, fr, h⟩
      · omega
      · rw [h] at hb1
        have := (Array.getElem?_eq_some_iff.1 HWY.out.bs).1
        omega
      · rw [h] at hb1
        have := HWY.out.be.lt
        omega
      · omega
      · rw [h, hcl] at ho
        cases ho
    · refine ⟨?_, set_P0 h65, (heap_setCell_ne (by omega)).trans ((hb6.block _ (by omega)).trans HQ.out.2.2.2.2.2.2.2.2.2.1), ?_, by omega⟩
      · rw [HQ.out.1]
        exact Kd.R_set hr6 h65 (by decide) 0 _
      · exact (HQ.out.2.2.2.2.2.2.2.2.2.2.1.trans (hb6.mono (by omega))).setCell (p := ⟨g + 1, 0, none⟩) (by show w.heap.size ≤ g + 1; omega) _
  case hdone =>
    rintro D W W' hD ⟨v9, hv9, hr9⟩ hA ⟨v, hv⟩ hsz hDd
    obtain ⟨E, hE⟩ : ∃ E, E = (wayOf L s).2 := ⟨_, rfl⟩
    rw [← hE] at hr9
    have hbx : Boxed W' (g + 2) 70 v9 := (hA.same _ hv9.lt (fun h => by rcases h with h | ⟨h, _⟩ <;> omega)).trans hv9
    have hrE : kI.R 79 W' 0 (fun _ => True) v9 E := R_kept hr9 rfl (fun k o hk hc => (hA.same k (Array.getElem?_eq_some_iff.1 hk).1 (fun h => by
      rcases h with h | ⟨_, o', ho, hoc⟩
      · exact h
      · obtain ⟨cells, fr, rfl⟩ := hc
        rw [hk] at ho; cases ho; cases hoc)).trans hk)
    obtain ⟨A3, c3, rfl, hc3, hr3⟩ := Kd.R_reads hrE
    obtain ⟨A9, c9, rfl, hc9, hr7⟩ := Kd.R_reads hv.own
    have hPA : PA.take O.length = PA := by rw [← HPO.out.1, List.take_length]
    have hown := hv.own
    rw [hPA] at hv hr7 hc9 hown
    have hpo : proveOf l k = if E.length = 0 then ⟨PA, 0, zL⟩ else ⟨PA, if (E.getD 0 zI).x.k = k then 1 else 2, (E.getD 0 zI).x⟩ := by rw [proveOf, ← HE.out.1, HE.out.2, ← HPA.out, ← hE]
    have HR := Aside0.mk (⟨hbx, hrE, hown, hv.p, hv.r, hv.below, hv.size, hDd, hc9⟩ : _ ∧ _ ∧ _ ∧ _ ∧ _ ∧ _ ∧ _ ∧ _ ∧ _)
    have HDD := Aside0.mk hD
    have HQO := Aside0.mk hpo
    have hbc := hbx.cell
    clear hv hE hr9 hA hv9 hrE hDd hpo hr7 hPA hbx hD hgv hI0
    have hbc1 : W'.cell? ⟨g + 1 + 1, 0, none⟩ = some (.slice A3 E.length c3) := hbc
    by_cases h0 : E.length = 0
    · have h0b : ((E.length : Int) == 0) = true := by simp [h0]
      have hpe : proveOf l k = ⟨PA, 0, zL⟩ := by rw [HQO.out, if_pos h0]
      have HPE := Aside0.mk hpe
      have hl2 : (loadVar 36 ⟨g + 1, 0, none⟩).run Tryd.prog W' = .ok (.agg (cP (.slice A9 PA.length c9) 0 zL)) W' := ld_P HR.out.2.2.2.1 0
      obtain ⟨C, hC⟩ : ∃ C, C = cP (.slice A9 PA.length c9) 0 zL := ⟨_, rfl⟩
      rw [← hC] at hl2
      have HC := Aside0.mk (⟨hC, by rw [hC, cP_size], by rw [hC]; exact all_one (cP_one rfl _ _)⟩ : C = cP (.slice A9 PA.length c9) 0 zL ∧ C.size = 35 ∧ C.all (·.oneCell') = true)
      clear hC h0 hpe
      gi_wp2_with (first
        | (refine wpListIn_loadv rfl 36 _ rfl _ rfl _ hl2 ?_)
        | (refine wpListIn_store_row rfl 36 (.tmp 4) (.tmp 27) rfl g C rfl rfl 36 (cP (.slice none 0 0) 0 zL) HR.out.2.2.2.2.1 (by rw [HC.out.2.1]; kernel_rfl) (by rw [HC.out.2.1, cP_size]) HC.out.2.2 ?_))
      have hbel3 : Below w.heap.size w (W'.setRow g C) := below_setRow HR.out.2.2.2.2.2.1 (by have := HG.out; omega)
      have hown3 : kS.R 27 (W'.setRow g C) w2.heap.size (fun _ => True) (.slice A9 PA.length c9) PA := R_setRow HR.out.2.2.1 (by omega) C
      have hgr3 : (W'.setRow g C).heap[g]? = some (.cells C 36 (0, 0)) := setRow_heap _ _ _ _ _ _ HR.out.2.2.2.2.1
      have hdd3 : (W'.setRow g C).heap[D]? = some (.deferred (some [])) := (setRow_other _ _ _ _ (by have := HDD.out; omega)).trans HR.out.2.2.2.2.2.2.2.1
      have hDg : g ≠ D := by have := HDD.out; omega
      refine leaves_marks w.heap.size [D] _ (by simp) (fun D' hD' => by rw [List.mem_singleton.1 hD']; exact ⟨by have := HDD.out; omega, hdd3⟩) (fun w' hk hz ho ht hou => ⟨_, results_cell_row rfl _ _ g 36 _ (0, 0) _ rfl ((hk g (by simpa using hDg)).trans hgr3) hu36 rfl (by rw [HC.out.2.1]; kernel_rfl), ?_⟩)
      rw [HPE.out]
      refine ⟨A9, c9, by rw [HC.out.1], (R_C (R_kept hown3 rfl (fun k o hk' hc => (hk k (fun h => ?_)).trans hk'))).2.2, HR.out.2.2.2.2.2.2.2.2, ⟨ho.trans hbel3.os, ht.trans hbel3.tape, hou.trans hbel3.output, by rw [hz]; exact hbel3.size, fun k hk' => (hk k (fun h => ?_)).trans (hbel3.block k hk')⟩⟩
      · rw [List.mem_singleton.1 h, hdd3] at hk'
        obtain ⟨cells, fr, rfl⟩ := hc
        cases hk'
      · rw [List.mem_singleton.1 h] at hk'
        have := HDD.out
        omega
    · have h0b : ((E.length : Int) == 0) = false := by simp [h0]
      have hpos : 0 < E.length := by omega
      obtain ⟨y, hy⟩ : ∃ y, y = E.getD 0 zI := ⟨_, rfl⟩
      obtain ⟨ad, eA, hat⟩ := at_flat (R_C HR.out.2.1).2.2 zI (0 : Int) (by omega) (by omega)
      subst eA
      rw [show ((0 : Int).toNat) = 0 from rfl, ← hy, Nat.zero_mul, Addr.add_zero'] at hat
      have hne : ad.block ≠ g + 1 := R_off HR.out.2.1 HR.out.2.2.2.1 (by decide) ad rfl hpos
      have hpe : proveOf l k = ⟨PA, if y.x.k = k then 1 else 2, y.x⟩ := by rw [HQO.out, if_neg h0, ← hy]
      have HPE := Aside0.mk hpe
      have HAT := Aside0.mk (And.intro (at_I0 hat) hne)
      obtain ⟨z, hz⟩ : ∃ z, z = y.x := ⟨_, rfl⟩
      rw [← hz] at HPE HAT
      have h0c : ((0 : Int) < (E.length : Int)) = True := eq_true (by omega)
      have h0n : (0 < E.length) = True := eq_true hpos
      clear h0 hpe hne hat hy hz hpos
      gi_wp2
      refine wpIn_wide.2 (wp_region_noPanic ?_)
      refine start_ (n := 8) (S := fun w' => ∀ b, b ≠ g + 1 → w'.heap[b]? = W'.heap[b]?) (ds := []) #[false, false, false, false, false, false, false, false] (by kernel_rfl) rfl rfl (fun _ _ => rfl) (fun hHeld => ?_)
      refine take_ (i := 0) (N := some 28) (v := ?_) (a' := ?_) #[true, false, false, false, false, false, false, false] rfl rfl (by kernel_rfl) (fun _ _ _ h => h) (Or.inl ⟨by rfl, ?_⟩) hHeld ?_ ?_
      rotate_left
      · intro w' hS
        have hx := (World.cell?_of_block (a := ⟨g + 2, 0, none⟩) (hS (g + 2) (by omega))).trans hbc
        go_simp
        with_reducible rfl
      rotate_left
      · simp only [Act.put, List.setIfInBounds_toArray, List.set_cons_zero, List.set_cons_succ, i64_w, i32_w]
        rfl
      refine pure_ (i := 1) (N := some 29) (v := ?_) (a' := ?_) #[true, true, false, false, false, false, false, false] rfl rfl (by kernel_rfl) (fun _ _ _ h => h) (Or.inl ⟨by rfl, ?_⟩) ?_ ?_
      rotate_left
      · intro w'
        go_simp
        with_reducible rfl
      rotate_left
      · simp only [Act.put, List.setIfInBounds_toArray, List.set_cons_zero, List.set_cons_succ, i64_w, i32_w]
        rfl
      refine pure_ (i := 2) (N := some 30) (v := ?_) (a' := ?_) #[true, true, true, false, false, false, false, false] rfl rfl (by kernel_rfl) (fun _ _ _ h => h) (Or.inl ⟨by rfl, ?_⟩) ?_ ?_
      rotate_left
      · intro w'
        go_simp
        with_reducible rfl
      rotate_left
      · simp only [Act.put, List.setIfInBounds_toArray, List.set_cons_zero, List.set_cons_succ, i64_w, i32_w]
        rfl
      refine take_ (i := 3) (N := some 31) (v := .agg (cL z)) (a' := ?_) #[true, true, true, true, false, false, false, false] rfl rfl (by kernel_rfl) (fun _ _ _ h => h) (Or.inl ⟨by rfl, fun w' hS => yield_load _ _ rfl _ rfl (run_loadVar_at _ ad 33 (cL z) _ (fun j u hj => (World.cell?_of_block (hS _ (by rw [show (ad.add j).block = ad.block by unfold Addr.add; split <;> rfl]; exact HAT.out.2))).trans (HAT.out.1 j u hj)) Tryd.underlying33 rfl (by rw [cL_size]; kernel_rfl))⟩) hHeld ?_ ?_
      rotate_left
      · simp only [Act.put, List.setIfInBounds_toArray, List.set_cons_zero, List.set_cons_succ, i64_w, i32_w]
        rfl
      refine pure_ (i := 4) (N := some 32) (v := ?_) (a' := ?_) #[true, true, true, true, true, false, false, false] rfl rfl (by kernel_rfl) (fun _ _ _ h => h) (Or.inl ⟨by rfl, ?_⟩) ?_ ?_
      rotate_left
      · intro w'
        go_simp
        with_reducible rfl
      rotate_left
      · simp only [Act.put, List.setIfInBounds_toArray, List.set_cons_zero, List.set_cons_succ, i64_w, i32_w]
        rfl
      refine one_ (i := 5) (N := none) #[true, true, true, true, true, true, false, false] rfl rfl (by kernel_rfl) (by decide) (fun K hK => ?_)
      refine st_cell (by rfl) rfl 3 (.tmp 32) (.const (.int .i64 2)) rfl ⟨g + 1, 1, none⟩ (.int .i64 2) (.int .i64 0) rfl rfl rfl rfl rfl (by kernel_rfl) (cell_P1 HR.out.2.2.2.1) (froz_P 1 HR.out.2.2.2.1) ?_
      refine hK.out _ _ (fun b hb => heap_setCell_ne hb) (fun hHeld => ?_)
      clear hK K
      refine pure_ (i := 6) (N := some 33) (v := ?_) (a' := ?_) #[true, true, true, true, true, true, true, false] rfl rfl (by kernel_rfl) (fun _ _ _ h => h) (Or.inl ⟨by rfl, ?_⟩) ?_ ?_
      rotate_left
      · intro w'
        go_simp
        with_reducible rfl
      rotate_left
      · simp only [Act.put, List.setIfInBounds_toArray, List.set_cons_zero, List.set_cons_succ, i64_w, i32_w]
        rfl
      refine one_ (i := 7) (N := none) #[true, true, true, true, true, true, true, true] rfl rfl (by kernel_rfl) (by decide) (fun K hK => ?_)
      refine st_mid (by rfl) rfl 33 (.tmp 33) (.tmp 31) rfl (g + 1) 2 (cL z) rfl rfl (by rw [cL_size]; exact there_P2 (set_P1 2 HR.out.2.2.2.1)) (by rw [cL_size]; kernel_rfl) (all_one (cL_one _)) ?_
      refine hK.out _ _ (fun b hb => (heap_setCells_ne hb _ _ _).trans (heap_setCell_ne hb)) (fun hHeld => ?_)
      clear hK K
      refine done_ (by kernel_rfl) (NoPanic.normal ?_)
      obtain ⟨wz, hwz⟩ : ∃ wz, wz = (W'.drew.setCell ⟨g + 1, 1, none⟩ (.int .i64 2)).setCells (g + 1) 2 (cL z).toList := ⟨_, rfl⟩
      have hz5 : wz.heap[g + 1]? = some (.cells (cP (.slice A9 PA.length c9) 2 z) 36 (0, 0)) := by rw [hwz]; exact set_P2 (set_P1 2 HR.out.2.2.2.1)
      have hzo : ∀ b, b ≠ g + 1 → wz.heap[b]? = W'.heap[b]? := fun b hb => by rw [hwz]; exact (heap_setCells_ne hb _ _ _).trans (heap_setCell_ne hb)
      have hzb : Below w.heap.size w wz := by rw [hwz]; exact below_setCells _ _ (HR.out.2.2.2.2.2.1.drew.setCell (p := ⟨g + 1, 1, none⟩) (by show w.heap.size ≤ g + 1; omega) _) (by omega)
      have hzr : kS.R 27 wz w2.heap.size (fun _ => True) (.slice A9 PA.length c9) PA := R_kept HR.out.2.2.1 rfl (fun k o hk hc => (hzo k (fun e => by
        rw [e, HR.out.2.2.2.1] at hk
        obtain ⟨cells, fr, rfl⟩ := hc
        injection hk with hk
        injection hk with _ hk _
        exact absurd hk (by decide))).trans hk)
      have HZ := Aside0.mk (⟨hz5, (hzo g (by omega)).trans HR.out.2.2.2.2.1, hzb, hzr, (hzo D (by have := HDD.out; omega)).trans HR.out.2.2.2.2.2.2.2.1⟩ : _ ∧ _ ∧ _ ∧ _ ∧ _)
      have hxk := cell_P2 hz5
      have hxe := cell_P1 hz5
      have hxf := froz_P 1 hz5
      rw [← hwz]
      clear hwz hz5 hzo hzb hzr hHeld
      by_cases hq : z.k.toList = k.toList
      · have hqb : (z.k.toList == k.toList) = true := by simp [hq]
        have hpe : proveOf l k = ⟨PA, 1, z⟩ := by rw [HPE.out, if_pos (toList_inj.1 hq)]
        have HP1 := Aside0.mk hpe
        have h5 := set_P1 (g := g + 1) 1 HZ.out.1
        have hl2 : (loadVar 36 ⟨g + 1, 0, none⟩).run Tryd.prog (wz.setCell ⟨g + 1, 1, none⟩ (.int .i64 1)) = .ok (.agg (cP (.slice A9 PA.length c9) 1 z)) (wz.setCell ⟨g + 1, 1, none⟩ (.int .i64 1)) := ld_P h5 0
        obtain ⟨C, hC⟩ : ∃ C, C = cP (.slice A9 PA.length c9) 1 z := ⟨_, rfl⟩
        rw [← hC] at hl2
        have HC := Aside0.mk (⟨hC, by rw [hC, cP_size], by rw [hC]; exact all_one (cP_one rfl _ _)⟩ : C = cP (.slice A9 PA.length c9) 1 z ∧ C.size = 35 ∧ C.all (·.oneCell') = true)
        have hgo : (wz.setCell ⟨g + 1, 1, none⟩ (.int .i64 1)).heap[g]? = some (.cells (cP (.slice none 0 0) 0 zL) 36 (0, 0)) := (heap_setCell_ne (by omega)).trans HZ.out.2.1
        have HGO := Aside0.mk hgo
        clear hC h5 hpe hq hgo
        gi_wp2_with (first
          | (refine wpListIn_loadv rfl 36 _ rfl _ rfl _ hl2 ?_)
          | (refine wpListIn_store_row rfl 36 (.tmp 4) (.tmp 40) rfl g C rfl rfl 36 (cP (.slice none 0 0) 0 zL) HGO.out (by rw [HC.out.2.1]; kernel_rfl) (by rw [HC.out.2.1, cP_size]) HC.out.2.2 ?_))
        have hbel3 : Below w.heap.size w ((wz.setCell ⟨g + 1, 1, none⟩ (.int .i64 1)).setRow g C) := below_setRow (HZ.out.2.2.1.setCell (p := ⟨g + 1, 1, none⟩) (by show w.heap.size ≤ g + 1; omega) _) (by have := HG.out; omega)
        have hown3 : kS.R 27 ((wz.setCell ⟨g + 1, 1, none⟩ (.int .i64 1)).setRow g C) w2.heap.size (fun _ => True) (.slice A9 PA.length c9) PA := R_setRow (R_setCell HZ.out.2.2.2.1 (by omega) _) (by omega) C
        have hgr3 : ((wz.setCell ⟨g + 1, 1, none⟩ (.int .i64 1)).setRow g C).heap[g]? = some (.cells C 36 (0, 0)) := setRow_heap _ _ _ _ _ _ HGO.out
        have hdd3 : ((wz.setCell ⟨g + 1, 1, none⟩ (.int .i64 1)).setRow g C).heap[D]? = some (.deferred (some [])) := (setRow_other _ _ _ _ (by have := HDD.out; omega)).trans ((heap_setCell_ne (by have := HDD.out; omega)).trans HZ.out.2.2.2.2)
        have hDg : g ≠ D := by have := HDD.out; omega
        refine leaves_marks w.heap.size [D] _ (by simp) (fun D' hD' => by rw [List.mem_singleton.1 hD']; exact ⟨by have := HDD.out; omega, hdd3⟩) (fun w' hk hz ho ht hou => ⟨_, results_cell_row rfl _ _ g 36 _ (0, 0) _ rfl ((hk g (by simpa using hDg)).trans hgr3) hu36 rfl (by rw [HC.out.2.1]; kernel_rfl), ?_⟩)
        rw [HP1.out]
        refine ⟨A9, c9, by rw [HC.out.1], (R_C (R_kept hown3 rfl (fun k o hk' hc => (hk k (fun h => ?_)).trans hk'))).2.2, HR.out.2.2.2.2.2.2.2.2, ⟨ho.trans hbel3.os, ht.trans hbel3.tape, hou.trans hbel3.output, by rw [hz]; exact hbel3.size, fun k hk' => (hk k (fun h => ?_)).trans (hbel3.block k hk')⟩⟩
        · rw [List.mem_singleton.1 h, hdd3] at hk'
          obtain ⟨cells, fr, rfl⟩ := hc
          cases hk'
        · rw [List.mem_singleton.1 h] at hk'
          have := HDD.out
          omega
      · have hqb : (z.k.toList == k.toList) = false := by simp [hq]
        have hpe : proveOf l k = ⟨PA, 2, z⟩ := by rw [HPE.out, if_neg (fun e => hq (toList_inj.2 e))]
        have HP1 := Aside0.mk hpe
        have hl2 : (loadVar 36 ⟨g + 1, 0, none⟩).run Tryd.prog wz = .ok (.agg (cP (.slice A9 PA.length c9) 2 z)) wz := ld_P HZ.out.1 0
        obtain ⟨C, hC⟩ : ∃ C, C = cP (.slice A9 PA.length c9) 2 z := ⟨_, rfl⟩
        rw [← hC] at hl2
        have HC := Aside0.mk (⟨hC, by rw [hC, cP_size], by rw [hC]; exact all_one (cP_one rfl _ _)⟩ : C = cP (.slice A9 PA.length c9) 2 z ∧ C.size = 35 ∧ C.all (·.oneCell') = true)
        clear hC hpe hq
        gi_wp2_with (first
          | (refine wpListIn_loadv rfl 36 _ rfl _ rfl _ hl2 ?_)
          | (refine wpListIn_store_row rfl 36 (.tmp 4) (.tmp 40) rfl g C rfl rfl 36 (cP (.slice none 0 0) 0 zL) HZ.out.2.1 (by rw [HC.out.2.1]; kernel_rfl) (by rw [HC.out.2.1, cP_size]) HC.out.2.2 ?_))
        have hbel3 : Below w.heap.size w (wz.setRow g C) := below_setRow HZ.out.2.2.1 (by have := HG.out; omega)
        have hown3 : kS.R 27 (wz.setRow g C) w2.heap.size (fun _ => True) (.slice A9 PA.length c9) PA := R_setRow HZ.out.2.2.2.1 (by omega) C
        have hgr3 : (wz.setRow g C).heap[g]? = some (.cells C 36 (0, 0)) := setRow_heap _ _ _ _ _ _ HZ.out.2.1
        have hdd3 : (wz.setRow g C).heap[D]? = some (.deferred (some [])) := (setRow_other _ _ _ _ (by have := HDD.out; omega)).trans HZ.out.2.2.2.2
        have hDg : g ≠ D := by have := HDD.out; omega
        refine leaves_marks w.heap.size [D] _ (by simp) (fun D' hD' => by rw [List.mem_singleton.1 hD']; exact ⟨by have := HDD.out; omega, hdd3⟩) (fun w' hk hz ho ht hou => ⟨_, results_cell_row rfl _ _ g 36 _ (0, 0) _ rfl ((hk g (by simpa using hDg)).trans hgr3) hu36 rfl (by rw [HC.out.2.1]; kernel_rfl), ?_⟩)
        rw [HP1.out]
        refine ⟨A9, c9, by rw [HC.out.1], (R_C (R_kept hown3 rfl (fun k o hk' hc => (hk k (fun h => ?_)).trans hk'))).2.2, HR.out.2.2.2.2.2.2.2.2, ⟨ho.trans hbel3.os, ht.trans hbel3.tape, hou.trans hbel3.output, by rw [hz]; exact hbel3.size, fun k hk' => (hk k (fun h => ?_)).trans (hbel3.block k hk')⟩⟩
        · rw [List.mem_singleton.1 h, hdd3] at hk'
          obtain ⟨cells, fr, rfl⟩ := hc
          cases hk'
        · rw [List.mem_singleton.1 h] at hk'
          have := HDD.out
          omega
end Go.Proofs.YtanabbjakacgbaaDoor.Sp
namespace Go.Proofs.YtanabbjakacgbaaDoor.Grow
set_option linter.unusedSimpArgs false
open Go Go.RowKit
section
variable {P : Program} {ops : Array Oper}
def dstN (ops : Array Oper) (i : Nat) : Nat := ((ops[i]?).bind (·.dst)).getD 0
def fil (ops : Array Oper) (T : Array Value) (vs : Nat → Value) (n : Nat) : Array Value := (List.range n).foldl (fun t i => t.setIfInBounds (dstN ops i) (vs i)) T
def ap (ops : Array Oper) (n : Nat) (a0 : Act) (vs : Nat → Value) : Act := { a0 with tmps := fil ops a0.tmps vs n }
def upd (vs : Nat → Value) (i : Nat) (v : Value) : Nat → Value := fun j => if j = i then v else vs j
theorem fil_succ (T : Array Value) (vs : Nat → Value) (n : Nat) : fil ops T vs (n + 1) = (fil ops T vs n).setIfInBounds (dstN ops n) (vs n) := by
  unfold fil
  rw [List.range_succ, List.foldl_append]
  rfl
theorem fil_size (T : Array Value) (vs : Nat → Value) : ∀ n, (fil ops T vs n).size = T.size
  | 0 => rfl
  | n + 1 => by rw [fil_succ, Array.size_setIfInBounds, fil_size T vs n]
theorem fil_out (T : Array Value) (vs : Nat → Value) (t : Nat) : ∀ n, (∀ j, j < n → dstN ops j ≠ t) → (fil ops T vs n)[t]? = T[t]?
  | 0, _ => rfl
  | n + 1, h => by
    rw [fil_succ, Array.getElem?_setIfInBounds_ne (h n (Nat.lt_succ_self n))]
    exact fil_out T vs t n (fun j hj => h j (by omega))
theorem fil_in (T : Array Value) (vs : Nat → Value) (i : Nat) : ∀ n, i < n → (∀ j k, j < n → k < n → dstN ops j = dstN ops k → j = k) → dstN ops i < T.size → (fil ops T vs n)[dstN ops i]? = some (vs i)
  | 0, h, _, _ => absurd h (Nat.not_lt_zero _)
  | n + 1, h, hd, hs => by
    rw [fil_succ]
    by_cases e : i = n
    · subst e
      rw [Array.getElem?_setIfInBounds_self_of_lt (by rw [fil_size]; exact hs)]
    · rw [Array.getElem?_setIfInBounds_ne (fun h' => e (hd n i (Nat.lt_succ_self n) h h').symm)]
      exact fil_in T vs i n (by omega) (fun j k hj hk => hd j k (by omega) (by omega)) hs
theorem ap_put {n i : Nat} {a0 : Act} {vs : Nat → Value} {v : Value} (hi : i < n) (hd : ∀ j k, j < n → k < n → dstN ops j = dstN ops k → j = k) : (ap ops n a0 vs).put (some (dstN ops i)) v = ap ops n a0 (upd vs i v) := by
  show ({ a0 with tmps := (fil ops a0.tmps vs n).setIfInBounds (dstN ops i) v } : Act) = { a0 with tmps := fil ops a0.tmps (upd vs i v) n }
  congr 1
  apply Array.ext_getElem?
  intro t
  by_cases ht : dstN ops i = t
  · subst ht
    by_cases hs : dstN ops i < a0.tmps.size
    · rw [Array.getElem?_setIfInBounds_self_of_lt (by rw [fil_size]; exact hs), fil_in _ _ i n hi hd hs, upd, if_pos rfl]
    · rw [Array.getElem?_eq_none (by rw [Array.size_setIfInBounds, fil_size]; omega), Array.getElem?_eq_none (by rw [fil_size]; omega)]
  · rw [Array.getElem?_setIfInBounds_ne ht]
    by_cases hj : ∃ j, j < n ∧ dstN ops j = t
    · obtain ⟨j, hjn, rfl⟩ := hj
      have hji : j ≠ i := fun e => ht (by rw [e])
      by_cases hs : dstN ops j < a0.tmps.size
      · rw [fil_in _ _ j n hjn hd hs, fil_in _ _ j n hjn hd hs, upd, if_neg hji]
      · rw [Array.getElem?_eq_none (by rw [fil_size]; omega), Array.getElem?_eq_none (by rw [fil_size]; omega)]
    · have hn : ∀ j, j < n → dstN ops j ≠ t := fun j hjn e => hj ⟨j, hjn, e⟩
      rw [fil_out _ _ _ n hn, fil_out _ _ _ n hn]
def growB (ops : Array Oper) (n : Nat) : Bool :=
  decide (n < ops.size) && Region.sinkB .any ops n && Region.chainB .any ops n &&
  ((List.range n).all fun i => match ops[i]? with
    | some o => o.dst.isSome && o.guard.isNone && (o.after.all fun e => !Region.binds .any e || decide (e.on < i)) && ((List.range n).all fun k => decide (i = k) || decide (dstN ops i ≠ dstN ops k))
    | none => false) &&
  Region.seqB .any ops (ops.size - n) n ((List.replicate n true ++ List.replicate (ops.size - n) false).toArray)
structure GrowS (ops : Array Oper) (n : Nat) : Prop where
  lt : n < ops.size
  sink : Region.sinkB .any ops n = true
  chain : Region.chainB .any ops n = true
  at_ : ∀ i, i < n → ∃ o, ops[i]? = some o ∧ o.dst = some (dstN ops i) ∧ o.guard = none ∧ (∀ e ∈ o.after, Region.binds .any e = true → e.on < i)
  dis : ∀ j k, j < n → k < n → dstN ops j = dstN ops k → j = k
  seq : Region.seqB .any ops (ops.size - n) n ((List.replicate n true ++ List.replicate (ops.size - n) false).toArray) = true
theorem growB_spec {n : Nat} (h : growB ops n = true) : GrowS ops n := by
  simp only [growB, Bool.and_eq_true, decide_eq_true_eq, List.all_eq_true, List.mem_range] at h
  obtain ⟨⟨⟨⟨h1, h2⟩, h3⟩, h4⟩, h5⟩ := h
  have key : ∀ i, i < n → ∃ o, ops[i]? = some o ∧ o.dst = some (dstN ops i) ∧ o.guard = none ∧ (∀ e ∈ o.after, Region.binds .any e = true → e.on < i) ∧ ∀ k, k < n → i = k ∨ dstN ops i ≠ dstN ops k := by
    intro i hi
    have := h4 i hi
    cases ho : ops[i]? with
    | none => rw [ho] at this; cases this
    | some o =>
      rw [ho] at this
      simp only [Bool.and_eq_true, List.all_eq_true, List.mem_range, Bool.or_eq_true, decide_eq_true_eq] at this
      obtain ⟨⟨⟨h6, h7⟩, h8⟩, h9⟩ := this
      obtain ⟨N, hN⟩ := Option.isSome_iff_exists.1 h6
      refine ⟨o, rfl, ?_, Option.isNone_iff_eq_none.1 h7, fun e he hb => ?_, h9⟩
      · simp [dstN, ho, hN]
      · have := Array.all_eq_true_iff_forall_mem.1 h8 e he
        rw [hb] at this
        simpa using this
  refine ⟨h1, h2, h3, fun i hi => ?_, fun j k hj hk e => ?_, h5⟩
  · obtain ⟨o, a, b, c, d, _⟩ := key i hi
    exact ⟨o, a, b, c, d⟩
  · obtain ⟨o, _, _, _, _, d⟩ := key j hj
    rcases d k hk with d | d
    · exact d
    · exact absurd e d
theorem count_set {p q : Nat → Bool} {i : Nat} (hp : p i = true) (hq : q i = false) (he : ∀ j, j ≠ i → q j = p j) : ∀ n, i < n → (List.range n).countP q + 1 = (List.range n).countP p
  | 0, h => absurd h (Nat.not_lt_zero _)
  | n + 1, h => by
    rw [List.range_succ, List.countP_append, List.countP_append, List.countP_singleton, List.countP_singleton]
    by_cases e : i = n
    · subst e
      rw [hp, hq]
      have : (List.range i).countP q = (List.range i).countP p := List.countP_congr fun j hj => by
        have := List.mem_range.1 hj
        rw [he j (by omega)]
      simp [this]
    · have := count_set hp hq he n (by omega)
      rw [he n (Ne.symm e)]
      omega
def blk : Value → Option Nat
  | .pointer (some ad) => some ad.block
  | .slice (some ad) _ _ => some ad.block
  | _ => none
theorem any_of_grow {n : Nat} (G : GrowS ops n) {Q : Exit → Act → World → Prop} {a0 : Act} {w0 : World} (F : Nat → Value → World → Prop) (M : Nat → Bool) (hmono : ∀ i v w w', F i v w → Below w.heap.size w w' → F i v w')
    (hstep : ∀ i o, i < n → ops[i]? = some o → ∀ vs w, Below w0.heap.size w0 w → (∀ e ∈ o.after, Region.binds .any e = true → F e.on (vs e.on) w) → ∀ K : Act → World → Prop, (∀ v w', F i v w' → Below w.heap.size w w' → (M i = true → ∀ b, blk v = some b → w.heap.size ≤ b ∧ b < w'.heap.size) → K ((ap ops n a0 vs).put o.dst v) w') → o.wp P (ap ops n a0 vs) w K Q)
    (hend : ∀ vs w, Below w0.heap.size w0 w → (∀ i, i < n → F i (vs i) w) → (∀ i j, i < n → j < n → i ≠ j → M i = true → M j = true → ∀ b, blk (vs i) = some b → blk (vs j) ≠ some b) → wpList P ops Q (ops.toList.drop n) (ap ops n a0 vs) w) :
    ∀ (f : Nat) (l : Array Bool) (vs : Nat → Value) (w : World), (List.range n).countP (fun i => !l.getD i false) = f → HeadInv .any ops n l → (∀ i, i < n → l.getD i false = true → F i (vs i) w) → Below w0.heap.size w0 w →
      (∀ i, i < n → l.getD i false = true → M i = true → ∀ b, blk (vs i) = some b → b < w.heap.size) → (∀ i j, i < n → j < n → l.getD i false = true → l.getD j false = true → i ≠ j → M i = true → M j = true → ∀ b, blk (vs i) = some b → blk (vs j) ≠ some b) →
      wpAny P .any ops Q (f + (ops.size - n)) l (ap ops n a0 vs) w := by
  intro f
  induction f with
  | zero =>
    intro l vs w hf inv hF hb hD1 hD2
    have hall : ∀ i, i < n → l.getD i false = true := fun i hi => by
      have := List.countP_eq_zero.1 hf i (List.mem_range.2 hi)
      simpa using this
    have hl : l = (List.replicate n true ++ List.replicate (ops.size - n) false).toArray := by
      have hlt := G.lt
      apply Array.ext
      · rw [inv.size]; simp; omega
      · intro i h1 h2
        have h3 : i < ops.size := by rw [← inv.size]; exact h1
        by_cases hi : i < n
        · have := hall i hi
          simp [h1] at this
          simp [this, List.getElem_append, hi]
        · have := inv.tail i (by omega) h3
          simp [h1] at this
          simp [this, List.getElem_append, hi]
    rw [Nat.zero_add]
    have hs := wpAny_of_seq (P := P) (md := .any) (ops := ops) (Q' := Q) (ops.toList.drop n) n l (ap ops n a0 vs) w (fun j => by simp) (by rw [show (ops.toList.drop n).length = ops.size - n by simp, hl]; exact G.seq) (hend vs w hb (fun i hi => hF i hi (hall i hi)) (fun i j hi hj => hD2 i j hi hj (hall i hi) (hall j hj)))
    rwa [show (ops.toList.drop n).length = ops.size - n by simp] at hs
  | succ f ih =>
    intro l vs w hf inv hF hb hD1 hD2
    have hsz : ∀ i, i < n → i < l.size := fun i hi => by rw [inv.size]; have := G.lt; omega
    have hex : ∃ i, i < n ∧ l.getD i false = false := by
      have h0 : 0 < (List.range n).countP (fun i => !l.getD i false) := by omega
      obtain ⟨i, hi, hp⟩ := List.countP_pos_iff.1 h0
      exact ⟨i, List.mem_range.1 hi, by simpa using hp⟩
    have hready : Region.ready .any ops l ≠ [] := by
      have hmin : ∀ d i, i ≤ d → i < n → l.getD i false = false → Region.ready .any ops l ≠ [] := by
        intro d
        induction d with
        | zero =>
          intro i hid hi hu hne
          obtain ⟨o, ho, _, _, haf⟩ := G.at_ i hi
          have : i ∈ Region.ready .any ops l := mem_ready.2 ⟨getD_in (hsz i hi) hu, o, ho, fun e he hbd => absurd (haf e he hbd) (by omega)⟩
          rw [hne] at this
          cases this
        | succ d ihd =>
          intro i hid hi hu
          obtain ⟨o, ho, _, _, haf⟩ := G.at_ i hi
          by_cases hc : ∃ j, j < i ∧ l.getD j false = false
          · obtain ⟨j, hj, hju⟩ := hc
            exact ihd j (by omega) (by omega) hju
          · intro hne
            have : i ∈ Region.ready .any ops l := mem_ready.2 ⟨getD_in (hsz i hi) hu, o, ho, fun e he hbd => by
              have h1 := haf e he hbd
              cases h2 : l.getD e.on false with
              | true => rfl
              | false => exact absurd ⟨e.on, h1, h2⟩ hc⟩
            rw [hne] at this
            cases this
      obtain ⟨i, hi, hu⟩ := hex
      exact hmin i i (Nat.le_refl _) hi hu
    obtain ⟨i0, hi0, hu0⟩ := hex
    rw [show f + 1 + (ops.size - n) = (f + (ops.size - n)) + 1 by omega]
    refine ⟨fun h => absurd h hready, fun i hi => ?_⟩
    have hin : i < n := Nat.lt_of_not_le fun h => tail_waits G.sink G.chain G.lt inv _ i0 rfl hi0 (getD_in (hsz i0 hi0) hu0) i h hi
    obtain ⟨hun, o, ho, hdep⟩ := mem_ready.1 hi
    obtain ⟨o', ho', hdst, hgd, haf⟩ := G.at_ i hin
    obtain rfl : o = o' := Option.some.inj (ho.symm.trans ho')
    refine wpOp_step ho (fun K hK => ?_)
    rw [if_pos (by unfold Region.wanted; rw [hgd])]
    refine hstep i o hin ho vs w hb (fun e he hbd => hF e.on (by have := haf e he hbd; omega) (hdep e he hbd)) K (fun v w' hv hw' hM => hK _ _ ?_)
    rw [hdst, ap_put hin G.dis]
    refine ih (l.setIfInBounds i true) (upd vs i v) w' ?_ (inv.set hi hin) (fun j hj hlj => ?_) (hb.trans (hw'.mono hb.size)) (fun j hj hlj hMj b hbj => ?_) (fun j k hj hk hlj hlk hjk hMj hMk b hbj hbk => ?_)
    · have hc := count_set (p := fun k => !l.getD k false) (q := fun k => !(l.setIfInBounds i true).getD k false) (i := i) (by simp [getD_both hun]) (by simp [hsz i hin]) (fun j hji => by show (!_) = (!_); rw [getD_set_ne false (Ne.symm hji)]) n hin
      omega
    · by_cases hji : j = i
      · subst hji
        rw [upd, if_pos rfl]
        exact hv
      · rw [upd, if_neg hji]
        rw [getD_set_ne false (Ne.symm hji)] at hlj
        exact hmono _ _ _ _ (hF j hj hlj) hw'
    · by_cases hji : j = i
      · subst hji
        rw [upd, if_pos rfl] at hbj
        exact (hM hMj b hbj).2
      · rw [upd, if_neg hji] at hbj
        rw [getD_set_ne false (Ne.symm hji)] at hlj
        exact Nat.lt_of_lt_of_le (hD1 j hj hlj hMj b hbj) hw'.size
    · by_cases hji : j = i
      · subst hji
        rw [upd, if_pos rfl] at hbj
        rw [upd, if_neg (Ne.symm hjk)] at hbk
        rw [getD_set_ne false hjk] at hlk
        have h1 := (hM hMj b hbj).1
        have h2 := hD1 k hk hlk hMk b hbk
        omega
      · rw [upd, if_neg hji] at hbj
        rw [getD_set_ne false (Ne.symm hji)] at hlj
        by_cases hki : k = i
        · subst hki
          rw [upd, if_pos rfl] at hbk
          have h1 := (hM hMk b hbk).1
          have h2 := hD1 j hj hlj hMj b hbj
          omega
        · rw [upd, if_neg hki] at hbk
          rw [getD_set_ne false (Ne.symm hki)] at hlk
          exact hD2 j k hj hk hlj hlk hjk hMj hMk b hbj hbk
theorem ap_self {n : Nat} (a0 : Act) (hd : ∀ j k, j < n → k < n → dstN ops j = dstN ops k → j = k) : ap ops n a0 (fun i => a0.tmps.getD (dstN ops i) undef) = a0 := by
  show ({ a0 with tmps := fil ops a0.tmps _ n } : Act) = a0
  have : fil ops a0.tmps (fun i => a0.tmps.getD (dstN ops i) undef) n = a0.tmps := by
    apply Array.ext_getElem?
    intro t
    by_cases hj : ∃ j, j < n ∧ dstN ops j = t
    · obtain ⟨j, hjn, rfl⟩ := hj
      by_cases hs : dstN ops j < a0.tmps.size
      · rw [fil_in _ _ j n hjn hd hs]
        simp [hs]
      · rw [Array.getElem?_eq_none (by rw [fil_size]; omega), Array.getElem?_eq_none (by omega)]
    · exact fil_out _ _ _ n (fun j hjn e => hj ⟨j, hjn, e⟩)
  rw [this]
def fil2 (T : Array Value) (vs : Nat → Value) (ds : List Nat) : Array Value := ds.zipIdx.foldl (fun t p => t.setIfInBounds p.1 (vs p.2)) T
theorem fil2_eq (T : Array Value) (vs : Nat → Value) : ∀ n, fil2 T vs ((List.range n).map (dstN ops)) = fil ops T vs n
  | 0 => rfl
  | n + 1 => by
    rw [fil_succ, ← fil2_eq T vs n]
    unfold fil2
    rw [List.range_succ, List.map_append, List.zipIdx_append, List.foldl_append]
    simp
theorem region_grow {id n : Nat} {Q : Exit → Act → World → Prop} {a0 : Act} {w0 : World} (ds : List Nat) (hm : P.follows .mixedOrders = true) (hB : growB ops n = true) (hds : (List.range n).map (dstN ops) = ds) (F : Nat → Value → World → Prop) (M : Nat → Bool) (hmono : ∀ i v w w', F i v w → Below w.heap.size w w' → F i v w')
    (hstep : ∀ i o, i < n → ops[i]? = some o → ∀ vs w, Below w0.heap.size w0 w → (∀ e ∈ o.after, Region.binds .any e = true → F e.on (vs e.on) w) → ∀ K : Act → World → Prop, (∀ v w', F i v w' → Below w.heap.size w w' → (M i = true → ∀ b, blk v = some b → w.heap.size ≤ b ∧ b < w'.heap.size) → K (({ a0 with tmps := fil2 a0.tmps vs ds } : Act).put o.dst v) w') → o.wp P { a0 with tmps := fil2 a0.tmps vs ds } w K Q)
    (hend : ∀ vs w, Below w0.heap.size w0 w → (∀ i, i < n → F i (vs i) w) → (∀ i j, i < n → j < n → i ≠ j → M i = true → M j = true → ∀ b, blk (vs i) = some b → blk (vs j) ≠ some b) → wpList P ops Q (ops.toList.drop n) { a0 with tmps := fil2 a0.tmps vs ds } w) : (Code.region id ops true).wp P Q a0 w0 := by
  have G := growB_spec hB
  have e : ∀ vs, ({ a0 with tmps := fil2 a0.tmps vs ds } : Act) = ap ops n a0 vs := fun vs => by
    rw [← hds, fil2_eq]
    rfl
  refine wp_region_any hm ?_
  have inv0 : HeadInv .any ops n (Array.replicate ops.size false) :=
    ⟨by simp, fun j oj _ hl => (by rw [getD_replicate_false] at hl; cases hl), fun t _ ht => getD_in (by simpa using ht) (getD_replicate_false _ _)⟩
  have H := any_of_grow (P := P) (Q := Q) (a0 := a0) (w0 := w0) G F M hmono
    (fun i o hi ho vs w hb hd K hK => by
      have := hstep i o hi ho vs w hb hd K (fun v w' h1 h2 h3 => by rw [e]; exact hK v w' h1 h2 h3)
      rwa [e] at this)
    (fun vs w hb hF hD => by have := hend vs w hb hF hD; rwa [e] at this)
    n (Array.replicate ops.size false) (fun i => a0.tmps.getD (dstN ops i) undef) w0.drew (by
    rw [List.countP_eq_length.2 (fun i _ => by rw [getD_replicate_false]; rfl), List.length_range]) inv0 (fun i _ hl => (by rw [getD_replicate_false] at hl; cases hl)) (Below.refl _ _).drew (fun i _ hl => (by rw [getD_replicate_false] at hl; cases hl)) (fun i j _ _ hl => (by rw [getD_replicate_false] at hl; cases hl))
  rw [ap_self a0 G.dis] at H
  have hlt := G.lt
  rwa [show n + (ops.size - n) = ops.size by omega] at H
theorem gr_val {o : Oper} {a : Act} {w w1 : World} {K : Act → World → Prop} {Q : Exit → Act → World → Prop} (v : Value) (hrun : (execOp a.eval o).run P w = .ok (.value v) w1) (h : K (a.put o.dst v) w1) : o.wp P a w K Q := by
  unfold Oper.wp
  rw [hrun]
  exact h
theorem gr_move {o : Oper} {a : Act} {w : World} {K : Act → World → Prop} {Q : Exit → Act → World → Prop} (x : Operand) (ho : o.op = .move x) (v : Value) (hx : a.eval x = v) (h : K (a.put o.dst v) w) : o.wp P a w K Q := by
  refine gr_val v ?_ h
  unfold execOp
  simp only [ho, hx]
  rfl
theorem gr_load {o : Oper} {a : Act} {w : World} {K : Act → World → Prop} {Q : Exit → Act → World → Prop} (ty : TypeId) (x : Operand) (ho : o.op = .load ty x) (ad : Addr) (hx : a.eval x = .pointer (some ad)) (v : Value) (hl : (loadVar ty ad).run P w = .ok v w) (h : K (a.put o.dst v) w) : o.wp P a w K Q := by
  refine gr_val v ?_ h
  unfold execOp
  simp only [ho, hx, Instr.loadAt, Instr.sureAddr, Sem.run_bind, Sem.run_pure, Result.andThen_ok, hl]
theorem gr_go {o : Oper} {a : Act} {w : World} {K : Act → World → Prop} {Q : Exit → Act → World → Prop} {f : FuncId} {fn : Func} {az : Array Operand} {ts : Array TypeId} (hf : P.funcs[f]? = some fn) (hname : (fn.name == "runtime.NumGoroutine") = false) (hb : fn.body.isSome = true) (args : Array Value)
    (hop : o.op = .call { callee := .value (.func f), args := az, argTypes := ts }) (hargs : az.map a.eval = args) (h : Calls P f args w fun e w' => ∃ v, e = .returned v ∧ K (a.put o.dst v) w') : o.wp P a w K Q := by
  have he : (callFunc f args).run P w = .ok (.enter f args) w := by
    have h1 : fn.name ≠ "runtime.NumGoroutine" := by simpa using hname
    obtain ⟨c, hc⟩ := Option.isSome_iff_exists.1 hb
    simp [callFunc, hf, h1, hc]
  have hrun : (execOp a.eval o).run P w = .ok (.enter f args) w := by
    unfold execOp
    simp [hop, resolve, Deferred.ofValue, invoke, Act.eval, hargs, he]
  unfold Oper.wp
  rw [hrun, Oper.upon_enter]
  refine h.mono fun e w'' hh => ?_
  obtain ⟨v, rfl, hk⟩ := hh
  exact hk
theorem gr_alloc {o : Oper} {a : Act} {w : World} {K : Act → World → Prop} {Q : Exit → Act → World → Prop} (t : TypeId) (z : Value) (ho : o.op = .alloc t) (hz : ∀ w, (zeroValue t).run P w = .ok z w) (h : K (a.put o.dst (.pointer (some ⟨w.heap.size, 0, none⟩))) (w.alloc (.cells z.cells t))) : o.wp P a w K Q := by
  refine gr_val _ ?_ h
  unfold execOp
  simp only [ho]
  simp [Instr.alloc, go_sem, hz]
end
end Go.Proofs.YtanabbjakacgbaaDoor.Grow
namespace Go.Proofs.YtanabbjakacgbaaDoor.Sp
open Go.RowKit Go.Proofs.YtanabbjakacgbaaDoorW.PrintWords Go.Proofs.YtanabbjakacgbaaDoorW.PrintLast Go.Proofs.YtanabbjakacgbaaDoorW.PrintMore Go.Proofs.YtanabbjakacgbaaDoor.PM Go.Proofs.YtanabbjakacgbaaDoor.Grow
set_option linter.unusedVariables false
set_option linter.unusedSimpArgs false
set_option maxRecDepth 100000
def agree (a b : Sm) (n : Nat) : Bool := (List.range n).all fun i => decide (bitI a i = bitI b i)
theorem agree_t {a b : Sm} {n : Nat} (h : ∀ i, i < n → bitI a i = bitI b i) : agree a b n = true := by
  rw [agree, List.all_eq_true]
  intro i hi
  rw [h i (List.mem_range.1 hi)]
  simp
theorem agree_f {a b : Sm} {n : Nat} (i : Nat) (hi : i < n) (h : bitI a i ≠ bitI b i) : agree a b n = false := by
  by_cases hv : agree a b n = true
  · rw [agree, List.all_eq_true] at hv
    have := hv i (List.mem_range.2 hi)
    exact absurd (by simpa using this) h
  · simpa using hv
def rightB (k : ByteArray) (n : Nat) (e : Int) (l : Lf) : Bool :=
  decide (n ≤ 256) && (if e = 0 then decide (l = zL) else if e = 1 then decide (l.k = k) else agree (hk k) (hk l.k) n && decide (e = 2) && decide (¬ l.k = k))
theorem run_loadVar_one {P : Program} {w : World} {ty : TypeId} {ad : Addr} {v : Value} {d : TypeDesc} (hu : P.underlying ty = some d) (hd : d.isRow = false) (hc : w.cell? ad = some v) : (loadVar ty ad).run P w = .ok v w := by
  have hagg : (isAgg ty).run P w = .ok false w := by
    unfold isAgg
    rw [Sem.run_bind, run_underlying hu w]
    cases d <;> simp_all
  simp [loadVar, Sem.run_bind, hagg, go_sem, hc]
theorem str_made {w : World} {s : ByteArray} (hs : s.size ≤ 1000000) : ∃ b c, Value.slice (some ⟨w.heap.size, 0, none⟩) s.size (grownCap w s.size 0 5) = .slice (some ⟨b, 0, none⟩) s.size c ∧ s.size ≤ c ∧ Kd.C (Kd.int .u8) (Lib.bytesWorld w 5 s) (some ⟨b, 0, none⟩) (bytesOf s).length (bytesOf s) :=
  ⟨_, _, rfl, grownCap_ge _ _ _ _, string_C (W := w) hs⟩
theorem zero27 (w : World) : (zeroValue 27).run Tryd.prog w = .ok (.agg (cS zS)) w := by
  obtain ⟨i, hi, hz⟩ := Option.map_eq_some_iff.1 infoS
  simp only [Prod.mk.injEq] at hz
  simp [zeroValue, typeInfo, hi, hz.1, go_sem]
def rightF (g : Nat) (k1 k2 : ByteArray) (B : Nat) (i : Nat) (v : Value) (w : World) : Prop :=
  match i with
  | 0 => v = .string k1
  | 1 => ∃ b c, v = .slice (some ⟨b, 0, none⟩) k1.size c ∧ k1.size ≤ c ∧ Kd.C (Kd.int .u8) w (some ⟨b, 0, none⟩) (bytesOf k1).length (bytesOf k1)
  | 2 => v = .agg (cS (hk k1))
  | 3 => v = .pointer (some ⟨g, 2, none⟩)
  | 4 => v = .pointer (some ⟨g, 2, none⟩)
  | 5 => v = .string k2
  | 6 => ∃ b c, v = .slice (some ⟨b, 0, none⟩) k2.size c ∧ k2.size ≤ c ∧ Kd.C (Kd.int .u8) w (some ⟨b, 0, none⟩) (bytesOf k2).length (bytesOf k2)
  | 7 => v = .agg (cS (hk k2))
  | _ => ∃ b, v = .pointer (some ⟨b, 0, none⟩) ∧ B ≤ b ∧ w.heap[b]? = some (.cells (cS zS) 27 (0, 0))
theorem rightF_mono (g : Nat) (k1 k2 : ByteArray) (B : Nat) : ∀ i v w w', rightF g k1 k2 B i v w → Below w.heap.size w w' → rightF g k1 k2 B i v w' := by
  intro i v w w' h hb
  unfold rightF at h ⊢
  split at h
  · exact h
  · obtain ⟨b, c, h1, h2, h3⟩ := h
    exact ⟨b, c, h1, h2, Kd.C_below h3 hb⟩
  · exact h
  · exact h
  · exact h
  · exact h
  · obtain ⟨b, c, h1, h2, h3⟩ := h
    exact ⟨b, c, h1, h2, Kd.C_below h3 hb⟩
  · exact h
  · obtain ⟨b, h1, h2, h3⟩ := h
    exact ⟨b, h1, h2, (hb.block b (Array.getElem?_eq_some_iff.1 h3).1).trans h3⟩
end Go.Proofs.YtanabbjakacgbaaDoor.Sp
namespace Go.Proofs.YtanabbjakacgbaaDoor.Sp
open Go.RowKit Go.Proofs.YtanabbjakacgbaaDoorW.PrintWords Go.Proofs.YtanabbjakacgbaaDoorW.PrintLast Go.Proofs.YtanabbjakacgbaaDoorW.PrintMore Go.Proofs.YtanabbjakacgbaaDoor.PM Go.Proofs.YtanabbjakacgbaaDoor.Grow
set_option linter.unusedVariables false
set_option linter.unusedSimpArgs false
set_option maxRecDepth 100000
set_option maxHeartbeats 400000 in
theorem right_calls (k : ByteArray) (hk1 : k.size ≤ 200000) (A : Option Addr) (n c : Nat) (hn : n ≤ 1000000) (e : Int) (l : Lf) (hl1 : l.k.size ≤ 200000) (w : World) (hW : Words w) :
    Calls Tryd.prog 66 #[.string k, .agg (cP (.slice A n c) e l)] w fun r w' => r = .returned (.bool (rightB k n e l)) ∧ Below w.heap.size w w' := by
  obtain ⟨g, hg⟩ : ∃ g, g = w.heap.size := ⟨_, rfl⟩
  obtain ⟨wb, hwb⟩ : ∃ wb, w.alloc (.cells (cP (.slice A n c) e l) 36) = wb := ⟨_, rfl⟩
  have h0 : wb.heap[g]? = some (.cells (cP (.slice A n c) e l) 36 (0, 0)) := by rw [← hwb]; exact h_new hg
  have hb : Below w.heap.size w wb := by rw [← hwb]; exact below_alloc (Below.refl _ _) _
  have hs : wb.heap.size = g + 1 := by rw [← hwb, size_alloc, hg]
  have HB := Aside0.mk (⟨h0, hb, hs, hW.below hb⟩ : _ ∧ _ ∧ _ ∧ _)
  have HWB := Aside0.mk hwb
  have HG := Aside0.mk hg
  have hc0 := cell_P0 h0
  have hc1 := cell_P1 h0
  have hc2 := cell_P2 h0
  obtain ⟨C, hC⟩ : ∃ C, C = cP (.slice A n c) e l := ⟨_, rfl⟩
  rw [← hC] at HWB ⊢
  clear h0 hb hs hwb hg hC hW
  go_enter Tryd.func66, Tryd.ntmps66
  by_cases h1 : n ≤ 256
  · have h1b : ¬ (256 : Int) < (n : Int) := by omega
    have hd1 : decide (n ≤ 256) = true := decide_eq_true h1
    by_cases e0 : e = 0
    · subst e0
      have hle : (loadVar 33 ⟨g, 2, none⟩).run Tryd.prog wb = .ok (.agg (cL l)) wb := le_L (cells_P2 HB.out.1) (Below.refl _ _) 0
      have hres : rightB k n 0 l = decide (l = zL) := by rw [rightB, hd1]; simp
      have HRES := Aside0.mk hres
      clear hres
      go_wp2_with (first
        | ((with_reducible refine gate_dst (N := 8) rfl ?_); (refine at_world (w' := wb) HWB.out ?_); rw [← HG.out])
        | ((with_reducible refine gate_dst (N := 17) rfl ?_); refine wpList_loadv rfl _ _ rfl _ rfl _ hle ?_)
        | ((with_reducible refine gate_dst (N := 18) rfl ?_); (refine wpList_built0 rfl 33 rfl (cL zL) (by kernel_rfl) ?_))
        | (refine wpList_eql rfl _ _ _ _ rfl _ _ rfl rfl gt_L _ (fun w => eqL w _ _) ?_))
      go_ret
      exact ⟨by rw [HRES.out]; rfl, HB.out.2.1⟩
    · have e0b : (e == 0) = false := by simp [e0]
      by_cases e1 : e = 1
      · subst e1
        have hres : rightB k n 1 l = decide (l.k = k) := by rw [rightB, hd1]; simp
        have HRES := Aside0.mk hres
        clear hres
        go_wp2_with (first
          | ((with_reducible refine gate_dst (N := 8) rfl ?_); (refine at_world (w' := wb) HWB.out ?_); rw [← HG.out]))
        go_ret
        refine ⟨?_, HB.out.2.1⟩
        rw [HRES.out]
        by_cases hq : l.k = k
        · simp [hq]
        · have h2 : ¬ l.k.toList = k.toList := fun h => hq (toList_inj.1 h)
          simp [hq, h2]
      · have e1b : (e == 1) = false := by simp [e1]
        by_cases e2 : e = 2
        · subst e2
          have hres : rightB k n 2 l = (agree (hk k) (hk l.k) n && decide (¬ l.k = k)) := by rw [rightB, hd1]; simp
          have HRES := Aside0.mk hres
          have HC2 := Aside0.mk hc2
          clear hres e0 e0b e1 e1b
          go_wp2_with (first
            | ((with_reducible refine gate_dst (N := 8) rfl ?_); (refine at_world (w' := wb) HWB.out ?_); rw [← HG.out]))
          refine region_grow (n := 10) [29, 30, 31, 32, 33, 34, 35, 36, 5, 6] (by kernel_rfl) (by kernel_rfl) (by kernel_rfl) (rightF g k l.k wb.heap.size) (fun i => i == 8 || i == 9) (rightF_mono _ _ _ _) ?hstep ?hend
          case hstep =>
            intro i o hi ho vs w2 hb2 hd K hK
            simp only [fil2, List.zipIdx_cons, List.zipIdx_nil, List.foldl_cons, List.foldl_nil, List.setIfInBounds_toArray, List.set_cons_zero, List.set_cons_succ, Nat.zero_add, Nat.reduceAdd] at hK ⊢
            match i, hi, ho, hK with
            | 0, _, ho, hK =>
              obtain rfl : _ = o := Option.some.inj ho
              exact gr_move (.tmp 0) rfl (.string k) rfl (hK _ _ rfl (Below.refl _ _) (fun h => by cases h))
            | 1, _, ho, hK =>
              obtain rfl : _ = o := Option.some.inj ho
              have h1 : vs 0 = .string k := hd ⟨0, .data⟩ (by simp) rfl
              obtain ⟨b, c', e1, e2, e3⟩ := str_made (w := w2) (s := k) (by omega)
              exact gr_val _ (str_value (.tmp 29) rfl k h1 Tryd.underlying9 Tryd.underlying50 Tryd.underlying5) (hK _ _ ⟨b, c', e1, e2, e3⟩ (bytes_below' _ _) (fun h => by cases h))
            | 2, _, ho, hK =>
              obtain rfl : _ = o := Option.some.inj ho
              obtain ⟨b, c', e1, e2, e3⟩ : ∃ b c', vs 1 = .slice (some ⟨b, 0, none⟩) k.size c' ∧ k.size ≤ c' ∧ Kd.C (Kd.int .u8) w2 (some ⟨b, 0, none⟩) (bytesOf k).length (bytesOf k) := hd ⟨1, .data⟩ (by simp) rfl
              refine gr_go Tryd.func65 (by kernel_rfl) rfl #[.slice (some ⟨b, 0, none⟩) (bytesOf k).length c'] rfl (by simp only [List.map_toArray, List.map_cons, List.map_nil]; rw [bytesOf_length, ← e1]; rfl) ?_
              refine (sumH_calls (bytesOf k) _ c' (bytesOf_ok k) (by rw [bytesOf_length]; exact e2) (by rw [bytesOf_length]; omega) w2 (HB.out.2.2.2.below hb2) e3).mono ?_
              rintro r w3 ⟨rfl, hb3⟩
              exact ⟨_, rfl, hK _ _ rfl hb3 (fun h => by cases h)⟩
            | 3, _, ho, hK =>
              obtain rfl : _ = o := Option.some.inj ho
              exact gr_val _ (by go_simp) (hK _ _ rfl (Below.refl _ _) (fun h => by cases h))
            | 4, _, ho, hK =>
              obtain rfl : _ = o := Option.some.inj ho
              have h3 : vs 3 = .pointer (some ⟨g, 2, none⟩) := hd ⟨3, .data⟩ (by simp) rfl
              exact gr_val (.pointer (some ⟨g, 2, none⟩)) (by go_simp) (hK _ _ rfl (Below.refl _ _) (fun h => by cases h))
            | 5, _, ho, hK =>
              obtain rfl : _ = o := Option.some.inj ho
              have h4 : vs 4 = .pointer (some ⟨g, 2, none⟩) := hd ⟨4, .data⟩ (by simp) rfl
              exact gr_load 9 (.tmp 33) rfl ⟨g, 2, none⟩ h4 (.string l.k) (run_loadVar_one Tryd.underlying9 rfl ((World.cell?_of_block (hb2.block g (by have := HB.out.2.2.1; omega))).trans HC2.out)) (hK _ _ rfl (Below.refl _ _) (fun h => by cases h))
            | 6, _, ho, hK =>
              obtain rfl : _ = o := Option.some.inj ho
              have h1 : vs 5 = .string l.k := hd ⟨5, .data⟩ (by simp) rfl
              obtain ⟨b, c', e1, e2, e3⟩ := str_made (w := w2) (s := l.k) (by omega)
              exact gr_val _ (str_value (.tmp 34) rfl l.k h1 Tryd.underlying9 Tryd.underlying50 Tryd.underlying5) (hK _ _ ⟨b, c', e1, e2, e3⟩ (bytes_below' _ _) (fun h => by cases h))
            | 7, _, ho, hK =>
              obtain rfl : _ = o := Option.some.inj ho
              obtain ⟨b, c', e1, e2, e3⟩ : ∃ b c', vs 6 = .slice (some ⟨b, 0, none⟩) l.k.size c' ∧ l.k.size ≤ c' ∧ Kd.C (Kd.int .u8) w2 (some ⟨b, 0, none⟩) (bytesOf l.k).length (bytesOf l.k) := hd ⟨6, .data⟩ (by simp) rfl
              refine gr_go Tryd.func65 (by kernel_rfl) rfl #[.slice (some ⟨b, 0, none⟩) (bytesOf l.k).length c'] rfl (by simp only [List.map_toArray, List.map_cons, List.map_nil]; rw [bytesOf_length, ← e1]; rfl) ?_
              refine (sumH_calls (bytesOf l.k) _ c' (bytesOf_ok l.k) (by rw [bytesOf_length]; exact e2) (by rw [bytesOf_length]; omega) w2 (HB.out.2.2.2.below hb2) e3).mono ?_
              rintro r w3 ⟨rfl, hb3⟩
              exact ⟨_, rfl, hK _ _ rfl hb3 (fun h => by cases h)⟩
            | 8, _, ho, hK =>
              obtain rfl : _ = o := Option.some.inj ho
              exact gr_alloc 27 (.agg (cS zS)) rfl zero27 (hK _ _ ⟨_, rfl, hb2.size, h_new rfl⟩ (below_alloc (Below.refl _ _) _) (fun _ b hb => by obtain rfl := Option.some.inj hb; exact ⟨Nat.le_refl _, by rw [size_alloc]; exact Nat.lt_succ_self _⟩))
            | 9, _, ho, hK =>
              obtain rfl : _ = o := Option.some.inj ho
              exact gr_alloc 27 (.agg (cS zS)) rfl zero27 (hK _ _ ⟨_, rfl, hb2.size, h_new rfl⟩ (below_alloc (Below.refl _ _) _) (fun _ b hb => by obtain rfl := Option.some.inj hb; exact ⟨Nat.le_refl _, by rw [size_alloc]; exact Nat.lt_succ_self _⟩))
            | _ + 10, hi, _, _ => exact absurd hi (by omega)
          case hend =>
            intro vs w2 hb2 hF hD
            simp only [fil2, List.zipIdx_cons, List.zipIdx_nil, List.foldl_cons, List.foldl_nil, List.setIfInBounds_toArray, List.set_cons_zero, List.set_cons_succ, Nat.zero_add, Nat.reduceAdd]
            have f0 : vs 0 = .string k := hF 0 (by decide)
            have f2 : vs 2 = .agg (cS (hk k)) := hF 2 (by decide)
            have f7 : vs 7 = .agg (cS (hk l.k)) := hF 7 (by decide)
            obtain ⟨b5, f8, f8b, f8h⟩ : ∃ b, vs 8 = .pointer (some ⟨b, 0, none⟩) ∧ wb.heap.size ≤ b ∧ w2.heap[b]? = some (.cells (cS zS) 27 (0, 0)) := hF 8 (by decide)
            obtain ⟨b6, f9, f9b, f9h⟩ : ∃ b, vs 9 = .pointer (some ⟨b, 0, none⟩) ∧ wb.heap.size ≤ b ∧ w2.heap[b]? = some (.cells (cS zS) 27 (0, 0)) := hF 9 (by decide)
            obtain ⟨a, ha⟩ : ∃ a, hk k = a := ⟨_, rfl⟩
            obtain ⟨b, hbb⟩ : ∃ b, hk l.k = b := ⟨_, rfl⟩
            rw [ha] at f2
            rw [hbb] at f7
            have HAB := Aside0.mk (And.intro ha hbb)
            clear ha hbb
            have hne : b6 ≠ b5 := fun e => hD 8 9 (by decide) (by decide) (by decide) rfl rfl b5 (by rw [f8]; rfl) (by rw [f9, e]; rfl)
            clear hD hF
            obtain ⟨v1, hv1⟩ : ∃ v, vs 1 = v := ⟨_, rfl⟩
            obtain ⟨v3, hv3⟩ : ∃ v, vs 3 = v := ⟨_, rfl⟩
            obtain ⟨v4, hv4⟩ : ∃ v, vs 4 = v := ⟨_, rfl⟩
            obtain ⟨v5, hv5⟩ : ∃ v, vs 5 = v := ⟨_, rfl⟩
            obtain ⟨v6, hv6⟩ : ∃ v, vs 6 = v := ⟨_, rfl⟩
            rw [f0, f2, f7, f8, f9, hv1, hv3, hv4, hv5, hv6]
            clear hv1 hv3 hv4 hv5 hv6 f0 f2 f7 f8 f9 vs
            simp only [List.toList_toArray, List.drop_succ_cons, List.drop_zero]
            refine wpList_store_row rfl 27 (.tmp 5) (.tmp 31) rfl b5 (cS a) rfl rfl 27 (cS zS) f8h ?g3 ?g4 (encI_one _) ?_
            case g3 => rw [cS_size]; kernel_rfl
            case g4 => rw [cS_size, cS_size]
            refine wpList_store_row rfl 27 (.tmp 6) (.tmp 36) rfl b6 (cS b) rfl rfl 27 (cS zS) ((setRow_other _ _ _ _ hne).trans f9h) ?g3 ?g4 (encI_one _) ?_
            case g3 => rw [cS_size]; kernel_rfl
            case g4 => rw [cS_size, cS_size]
            obtain ⟨wy, hwy⟩ : ∃ wy, wy = (w2.setRow b5 (cS a)).setRow b6 (cS b) := ⟨_, rfl⟩
            have hy5 : wy.heap[b5]? = some (.cells (cS a) 27 (0, 0)) := by rw [hwy]; exact (setRow_other _ _ _ _ (Ne.symm hne)).trans (setRow_heap _ _ _ _ _ _ f8h)
            have hy6 : wy.heap[b6]? = some (.cells (cS b) 27 (0, 0)) := by rw [hwy]; exact setRow_heap _ _ _ _ _ _ ((setRow_other _ _ _ _ hne).trans f9h)
            have hyb : Below wb.heap.size wb wy := by rw [hwy]; exact below_setRow (below_setRow hb2 f8b) f9b
            rw [← hwy]
            have hy0 : wy.cell? ⟨g, 0, none⟩ = some (.slice A n c) := (World.cell?_of_block (hyb.block g (by have := HB.out.2.2.1; omega))).trans hc0
            clear hwy f8h f9h f8b f9b hne hb2
            have HY := Aside0.mk (⟨hy5, hy6, hyb⟩ : _ ∧ _ ∧ _)
            clear hy5 hy6 hyb
            go_wp2
            go_loopw [40, 7] (fun i v7 wr => ∃ m : Nat, i = .int .i64 (m : Int) ∧ m ≤ n ∧ Aside0 (∀ j, j < m → bitI a j = bitI b j) ∧ Aside0 (Below wy.heap.size wy wr)) (fun i _ _ => n - (intOf i).toNat)
            case atStart => exact ⟨0, rfl, by omega, ⟨fun j hj => by omega⟩, ⟨Below.refl _ _⟩⟩
            case round =>
              clear hy0
              obtain ⟨m, rfl, hm, HV, HR⟩ := hrel
              by_cases c5 : m < n
              · have c5b : (m : Int) < (n : Int) := by omega
                have hm2 : m < 256 := by omega
                have h5 := (HR.out.block b5 (Array.getElem?_eq_some_iff.1 HY.out.1).1).trans HY.out.1
                have h6 := (HR.out.block b6 (Array.getElem?_eq_some_iff.1 HY.out.2.1).1).trans HY.out.2.1
                have H56 := Aside0.mk (And.intro h5 h6)
                clear h5 h6
                obtain ⟨p, hp⟩ : ∃ p, bitI a m = p := ⟨_, rfl⟩
                obtain ⟨q, hq⟩ : ∃ q, bitI b m = q := ⟨_, rfl⟩
                have HPQ := Aside0.mk (And.intro hp hq)
                clear hp hq
                go_wp2
                refine start_ (n := 7) (S := fun w' => Below wr.heap.size wr w') (ds := []) #[false, false, false, false, false, false, false] (by kernel_rfl) rfl rfl (Below.refl _ _).drew (fun hHeld => ?_)
                refine take_ (i := 0) (N := some 43) (v := .agg (cS a)) (a' := ?_) #[true, false, false, false, false, false, false] rfl rfl (by kernel_rfl) (fun _ _ _ h => h) (Or.inl ⟨by rfl, fun w' hS => yield_load _ _ rfl _ rfl (ld_S ((hS.block b5 (Array.getElem?_eq_some_iff.1 H56.out.1).1).trans H56.out.1) 0)⟩) hHeld ?_ ?_
                rotate_left
                · simp only [Act.put, List.setIfInBounds_toArray, List.set_cons_zero, List.set_cons_succ, i64_w, i32_w]
                  rfl
                refine pure_ (i := 1) (N := some 44) (v := ?_) (a' := ?_) #[true, true, false, false, false, false, false] rfl rfl (by kernel_rfl) (fun _ _ _ h => h) (Or.inl ⟨by rfl, ?_⟩) ?_ ?_
                rotate_left
                · intro w'
                  go_simp
                  with_reducible rfl
                rotate_left
                · simp only [Act.put, List.setIfInBounds_toArray, List.set_cons_zero, List.set_cons_succ, i64_w, i32_w]
                  rfl
                refine take_ (i := 3) (N := some 46) (v := .agg (cS b)) (a' := ?_) #[true, true, false, true, false, false, false] rfl rfl (by kernel_rfl) (fun _ _ _ h => h) (Or.inl ⟨by rfl, fun w' hS => yield_load _ _ rfl _ rfl (ld_S ((hS.block b6 (Array.getElem?_eq_some_iff.1 H56.out.2).1).trans H56.out.2) 0)⟩) hHeld ?_ ?_
                rotate_left
                · simp only [Act.put, List.setIfInBounds_toArray, List.set_cons_zero, List.set_cons_succ, i64_w, i32_w]
                  rfl
                refine pure_ (i := 4) (N := some 47) (v := ?_) (a' := ?_) #[true, true, false, true, true, false, false] rfl rfl (by kernel_rfl) (fun _ _ _ h => h) (Or.inl ⟨by rfl, ?_⟩) ?_ ?_
                rotate_left
                · intro w'
                  go_simp
                  with_reducible rfl
                rotate_left
                · simp only [Act.put, List.setIfInBounds_toArray, List.set_cons_zero, List.set_cons_succ, i64_w, i32_w]
                  rfl
                refine one_ (i := 2) (N := some 45) #[true, true, true, true, true, false, false] rfl rfl (by kernel_rfl) (by decide) (fun K hK => ?_)
                refine goes_ Tryd.func68 (by kernel_rfl) rfl #[.agg (cS a), .int .i64 (m : Int)] (by rfl) rfl rfl (by simp only [List.map_toArray, List.map_cons, List.map_nil]; rfl) ?_
                refine (bitm_calls a m hm2 _).mono ?_
                rw [HPQ.out.1]
                rintro r w3 ⟨rfl, hb3⟩
                refine ⟨_, rfl, ?_⟩
                refine hK.out _ _ (below_tr hHeld hb3 hHeld.size) (fun hHeld => ?_)
                clear hK K
                refine norm_ (a' := ?_) ?_ ?_
                rotate_left
                · show Act.put _ (some 45) _ = _
                  simp only [Act.put, List.setIfInBounds_toArray, List.set_cons_zero, List.set_cons_succ, i64_w, i32_w]
                  rfl
                refine one_ (i := 5) (N := some 48) #[true, true, true, true, true, true, false] rfl rfl (by kernel_rfl) (by decide) (fun K hK => ?_)
                refine goes_ Tryd.func68 (by kernel_rfl) rfl #[.agg (cS b), .int .i64 (m : Int)] (by rfl) rfl rfl (by simp only [List.map_toArray, List.map_cons, List.map_nil]; rfl) ?_
                refine (bitm_calls b m hm2 w3).mono ?_
                rw [HPQ.out.2]
                rintro r w4 ⟨rfl, hb4⟩
                refine ⟨_, rfl, ?_⟩
                refine hK.out _ _ (below_tr hHeld hb4 hHeld.size) (fun hHeld => ?_)
                clear hK K
                refine norm_ (a' := ?_) ?_ ?_
                rotate_left
                · show Act.put _ (some 48) _ = _
                  simp only [Act.put, List.setIfInBounds_toArray, List.set_cons_zero, List.set_cons_succ, i64_w, i32_w]
                  rfl
                have H4 := Aside0.mk (below_tr HR.out hHeld HR.out.size)
                clear hHeld hb3 hb4
                refine pure_ (i := 6) (N := some 49) (v := ?_) (a' := ?_) #[true, true, true, true, true, true, true] rfl rfl (by kernel_rfl) (fun _ _ _ h => h) (Or.inl ⟨by rfl, ?_⟩) ?_ ?_
                rotate_left
                · intro w'
                  go_simp
                  with_reducible rfl
                rotate_left
                · simp only [Act.put, List.setIfInBounds_toArray, List.set_cons_zero, List.set_cons_succ, i64_w, i32_w]
                  rfl
                refine done_ (by kernel_rfl) ?_
                by_cases hpq : p = q
                · have hpq2 : (p != q) = false := by simp [hpq]
                  go_wp2
                  refine ⟨⟨m + 1, by simp, by omega, ⟨fun j hj => ?_⟩, H4⟩, by simp [intOf]; omega⟩
                  by_cases hjm : j = m
                  · subst hjm
                    rw [HPQ.out.1, HPQ.out.2, hpq]
                  · exact HV.out j (by omega)
                · have hpq2 : (p != q) = true := by simp [hpq]
                  have hres2 : agree a b n = false := agree_f m c5 (by rw [HPQ.out.1, HPQ.out.2]; exact hpq)
                  go_wp2
                  go_ret
                  exact ⟨by rw [HRES.out, HAB.out.1, HAB.out.2, hres2]; rfl, HB.out.2.1.trans ((HY.out.2.2.trans (H4.out.mono HY.out.2.2.size)).mono (by have := HB.out.2.1.size; omega))⟩
              · have c5b : ¬ (m : Int) < (n : Int) := by omega
                have hres2 : agree a b n = true := agree_t (fun i hi => HV.out i (by omega))
                have hx2 := (World.cell?_of_block (HR.out.block g (by have := HB.out.2.2.1; have := HY.out.2.2.size; omega))).trans ((World.cell?_of_block (HY.out.2.2.block g (by have := HB.out.2.2.1; omega))).trans HC2.out)
                go_wp2
                go_ret
                refine ⟨?_, HB.out.2.1.trans ((HY.out.2.2.trans (HR.out.mono HY.out.2.2.size)).mono (by have := HB.out.2.1.size; omega))⟩
                rw [HRES.out, HAB.out.1, HAB.out.2, hres2]
                by_cases hq : l.k = k
                · simp [hq]
                · have h2 : ¬ l.k.toList = k.toList := fun h => hq (toList_inj.1 h)
                  simp [hq, h2]
        · have e2b : (e == 2) = false := by simp [e2]
          have hres : rightB k n e l = false := by rw [rightB, if_neg e0, if_neg e1]; simp [e2]
          have HRES := Aside0.mk hres
          clear hres
          go_wp2_with (first
            | ((with_reducible refine gate_dst (N := 8) rfl ?_); (refine at_world (w' := wb) HWB.out ?_); rw [← HG.out]))
          go_ret
          exact ⟨by rw [HRES.out]; rfl, HB.out.2.1⟩
  · have h1b : (256 : Int) < (n : Int) := by omega
    have hres : rightB k n e l = false := by rw [rightB, decide_eq_false h1]; simp
    have HRES := Aside0.mk hres
    clear hres
    go_wp2_with (first
      | ((with_reducible refine gate_dst (N := 8) rfl ?_); (refine at_world (w' := wb) HWB.out ?_); rw [← HG.out]))
    go_ret
    exact ⟨by rw [HRES.out]; rfl, HB.out.2.1⟩
end Go.Proofs.YtanabbjakacgbaaDoor.Sp
namespace Go.Proofs.YtanabbjakacgbaaDoor.Sp
open Go.RowKit Go.Shelf Go.Proofs.YtanabbjakacgbaaDoorW.PrintWords Go.Proofs.YtanabbjakacgbaaDoorW.PrintLast Go.Proofs.YtanabbjakacgbaaDoorW.PrintMore Go.Proofs.YtanabbjakacgbaaDoor.PM Go.Proofs.YtanabbjakacgbaaDoor.Rng
set_option linter.unusedVariables false
set_option linter.unusedSimpArgs false
set_option maxRecDepth 100000
attribute [local go_sem] Oper.semAt_some
def Eb (p : List Sm) (i : Nat) (x : Nat) (vs : Array Value) (W : World) : Prop := vs = #[.int .i64 (x : Int), .agg (cS (p.getD x zS))]
def Sb (gb : Nat) (A : Option Addr) (k : Nat) (o : Obj) : Prop := o.isCells = true ∧ (k = gb ∨ ∃ ad, A = some ad ∧ k = ad.block)
theorem at_S {w : World} {A : Option Addr} {p : List Sm} (h : kS.C w A p.length p) (i : Nat) (hi : i < p.length) : ∃ ad, A = some ad ∧ ∀ j u, (cS (p.getD i zS)).toList[j]? = some u → w.cell? ((ad.add (i * 32)).add j) = some u := by
  obtain ⟨ad, e, hc⟩ := at_flat h zS (i : Int) (by omega) (by omega)
  rw [show ((i : Int).toNat) = i by omega] at hc
  exact ⟨ad, e, hc⟩
theorem add_blk (ad : Addr) (j : Nat) : (ad.add j).block = ad.block := by unfold Addr.add; split <;> rfl
theorem cell_obj {w : World} {ad : Addr} {v : Value} (h : w.cell? ad = some v) : ∃ o, w.heap[ad.block]? = some o ∧ o.isCells = true := by
  unfold World.cell? at h
  cases ho : w.heap[ad.block]? with
  | none => rw [ho] at h; simp at h
  | some o =>
    rw [ho] at h
    refine ⟨o, rfl, ?_⟩
    cases o <;> first | rfl | simp at h
set_option maxHeartbeats 1000000 in
theorem back_gives (m : Nat) (hm : 1 ≤ m) (gb : Nat) (p : List Sm) (A : Option Addr) (c : Nat) (w : World) (hl : p.length ≤ 1000000)
    (hxb : Boxed w gb 34 (.slice A p.length c)) (hr : kS.C w A p.length p) :
    Gives2 Fence.wide m Tryd.prog 88 #[.pointer (some ⟨gb, 0, none⟩)] (Eb p) (Sb gb A) (fun _ => False) ((List.range p.length).reverse) (fun _ => True) w := by
  intro l J W hS hsz hJ hY h0
  have hbW : Boxed W gb 34 (.slice A p.length c) := hS gb _ hxb ⟨rfl, .inl rfl⟩
  have hrW : ∀ (W1 : World), (∀ k o, W.heap[k]? = some o → Sb gb A k o → W1.heap[k]? = some o) → ∀ i, i < p.length → ∃ ad, A = some ad ∧ ∀ j u, (cS (p.getD i zS)).toList[j]? = some u → W1.cell? ((ad.add (i * 32)).add j) = some u := by
    intro W1 h1 i hi
    obtain ⟨ad, e, hc⟩ := at_S hr i hi
    refine ⟨ad, e, fun j u hj => ?_⟩
    have h2 := hc j u hj
    obtain ⟨o, ho, hoc⟩ := cell_obj h2
    rw [add_blk, add_blk] at ho
    have h3 := hS _ _ ho ⟨hoc, .inr ⟨ad, e, rfl⟩⟩
    have h4 := h1 _ _ h3 ⟨hoc, .inr ⟨ad, e, rfl⟩⟩
    exact (World.cell?_of_block (by rw [add_blk, add_blk, h4, ho])).trans h2
  have HIN := Aside0.mk (And.intro hbW hrW)
  have HJ := Aside0.mk hJ
  have HY := Aside0.mk hY
  have hcb := hbW.cell
  clear hbW hrW hxb hr hS hJ hY hsz
  refine callsIn_of_wp Tryd.func88 rfl trivial ?_ rfl
  simp only [Tryd.ntmps88, List.size_toArray, List.length_cons, List.length_nil, Nat.reduceAdd, Nat.reduceSub, Array.replicate_succ, Array.replicate_zero, List.push_toArray, List.append_toArray, List.nil_append, List.cons_append]
  gi_wp2
  gi_loopw [3] (fun v wr => ∃ q : Nat, v = .int .i64 ((q : Int) - 1) ∧ q ≤ p.length ∧ Aside0 (J (p.length - q) wr ∧ (∀ k o, W.heap[k]? = some o → Sb gb A k o → wr.heap[k]? = some o))) (fun v _ => (intOf v + 1).toNat)
  case atStart => exact ⟨p.length, rfl, Nat.le_refl _, ⟨by rw [Nat.sub_self]; exact h0, fun k o h _ => h⟩⟩
  case round =>
    clear hcb h0
    obtain ⟨q, rfl, hq, HR⟩ := hrel
    cases q with
    | zero =>
      have c4 : ¬ ((0 : Int) ≤ ((0 : Nat) : Int) - 1) := by omega
      gi_wp2
      go_end0
      first
        | exact HR.out.1
        | exact ⟨⟨_, rfl⟩, by simpa using HR.out.1, trivial⟩
        | (simpa using HR.out.1)
    | succ q =>
      have K1 : ((q + 1 : Nat) : Int) - 1 = (q : Int) := by omega
      have hqp : q < p.length := by omega
      obtain ⟨ad, eA, hat⟩ := HIN.out.2 wr HR.out.2 q hqp
      subst eA
      obtain ⟨x, hx⟩ : ∃ x, x = p.getD q zS := ⟨_, rfl⟩
      rw [← hx] at hat
      have HX := Aside0.mk hx
      clear hx
      have hl2 : (loadVar 27 (ad.add (q * 32))).run Tryd.prog wr = .ok (.agg (cS x)) wr := le_S hat (Below.refl _ _) 0
      have hb2 : Boxed wr gb 34 (.slice (some ad) p.length c) := HR.out.2 gb _ HIN.out.1 ⟨rfl, .inl rfl⟩
      have hcb := hb2.cell
      have c4a : ((0 : Int) ≤ (q : Int)) = True := eq_true (by omega)
      have c4b : ((q : Int) < (p.length : Int)) = True := eq_true (by omega)
      have HD := Aside0.mk hqp
      rw [K1]
      clear hat hb2 K1 hq hqp
      gi_wp2_with (refine wpListIn_loadv rfl 27 _ rfl _ rfl _ hl2 ?_)
      refine at_named (fun W1 hW1 => ?_)
      subst hW1
      have hget : (List.range p.length).reverse[p.length - (q + 1)]? = some q := by
        have := HD.out
        rw [List.getElem?_reverse (by rw [List.length_range]; omega), List.length_range, List.getElem?_range (by omega)]
        congr 1
        try omega
      obtain ⟨fn, tmps, assign, body, hy, hR⟩ := HY.out (p.length - (q + 1)) q #[.int .i64 (q : Int), .agg (cS x)] W1 hget HR.out.1 (by rw [Eb, HX.out])
      rw [hy, Oper.uponIn_round]
      refine ⟨fun _ => hm, hR.mono ?_⟩
      rintro e W3 ⟨rfl, hJ4, hsz3, hS3⟩
      rw [show p.length - (q + 1) + 1 = p.length - q by have := HD.out; omega] at hJ4
      have H4 := Aside0.mk (And.intro hJ4 (fun k o hk hs => hS3 k o (HR.out.2 k o hk hs) hs : ∀ k o, W.heap[k]? = some o → Sb gb (some ad) k o → W3.heap[k]? = some o))
      clear hJ4 hS3 hy hR hget
      gi_wp2
      go_roundw
      case rel => exact ⟨q, by rw [show wrap64 ((q : Int) - 1) = (q : Int) - 1 by have := HD.out; unfold wrap64; omega], by have := HD.out; omega, H4⟩
      case measure =>
        rw [show wrap64 ((q : Int) - 1) = (q : Int) - 1 by have := HD.out; unfold wrap64; omega]
        simp [intOf]
        try omega
theorem Backward_calls (A : Option Addr) (n c : Nat) (w : World) : Calls Tryd.prog 67 #[.slice A n c] w fun e w' => e = .returned (.func (.func 88) #[] #[.pointer (some ⟨w.heap.size, 0, none⟩)]) ∧ Boxed w' w.heap.size 34 (.slice A n c) ∧ Below w.heap.size w w' := by
  go_enter Tryd.func67, Tryd.ntmps67
  go_wp2
  go_ret
  exact ⟨rfl, Boxed.new w 34 _, below_alloc (Below.refl _ _) _⟩
end Go.Proofs.YtanabbjakacgbaaDoor.Sp
namespace Go.Proofs.YtanabbjakacgbaaDoor.Sp
open Go.RowKit Go.Shelf Go.Proofs.YtanabbjakacgbaaDoorW.PrintWords Go.Proofs.YtanabbjakacgbaaDoorW.PrintLast Go.Proofs.YtanabbjakacgbaaDoorW.PrintMore Go.Proofs.YtanabbjakacgbaaDoor.PM Go.Proofs.YtanabbjakacgbaaDoor.Rng
set_option linter.unusedVariables false
set_option linter.unusedSimpArgs false
set_option maxRecDepth 100000
attribute [local go_sem] Oper.semAt_some
theorem results_row_tmp2 {P : Program} {fn : Func} {p t1 u1 : Tmp} {ty : TypeId} (h : fn.results = #[.cell p ty, .tmp t1, .tmp u1]) (tmps : Array Value) (w : World) (g : Nat) (t : TypeId) (cs : Array Value) (fr : Nat × Nat) (d : TypeDesc)
    (hp : tmps.getD p undef = .pointer (some ⟨g, 0, none⟩)) (hg : w.heap[g]? = some (.cells cs t fr))
    (hu : P.underlying ty = some d) (hd : (match d with | .struct _ | .array _ _ => true | _ => false) = true) (hi : (P.info? ty).map (·.size) = some cs.size) (x y : Value) (hx : tmps.getD t1 undef = x) (hy : tmps.getD u1 undef = y) :
    (results fn tmps).run P w = .ok (.tuple #[.agg cs, x, y]) w := by
  have hp' : tmps[p]?.getD undef = .pointer (some ⟨g, 0, none⟩) := by simpa using hp
  subst hx hy
  simp [results, h, hp', asAddr, run_loadVar_row w g t ty cs fr d hg hu hd hi]
section
variable {F : Fence} {n : Nat} {P : Program} {ops : Array Oper} {Q : Exit → Act → World → Prop} {rest : List Oper} {o : Oper} {a : Act} {w w' : World}
theorem gate_dstIn {N : Tmp} (_hN : o.dst = some N) (h : wpListIn F n P ops Q (o :: rest) a w) : wpListIn F n P ops Q (o :: rest) a w := h
theorem gate_storeIn {t : TypeId} {x y : Operand} (_ho : o.op = .store t x y) (h : wpListIn F n P ops Q (o :: rest) a w) : wpListIn F n P ops Q (o :: rest) a w := h
theorem at_worldIn {l : List Oper} (h : w = w') (H : wpListIn F n P ops Q l a w') : wpListIn F n P ops Q l a w := by rw [h]; exact H
theorem wpListIn_built0 (hg : o.guard = none) (t : TypeId) (ho : o.op = .build t #[]) (cells : Array Value) (hf : P.built t [] = some cells) (h : wpListIn F n P ops Q rest (a.put o.dst (.agg cells)) w) : wpListIn F n P ops Q (o :: rest) a w := by
  refine wpListIn_plain hg fun K hK => ?_
  unfold Oper.wpIn
  refine ⟨by simp [Oper.about, ho], ?_⟩
  have hrun : (execOp a.eval o).run P w = .ok (.value (.agg cells)) w := by
    unfold execOp
    simp only [ho, Sem.run_bind]
    rw [show (Array.map (fun x : Nat × Operand => (x.1, a.eval x.2)) #[]) = #[] from Array.map_empty, run_build w t _ cells hf]
    rfl
  rw [Oper.semAt_plain F _ _ (by rw [ho]; intro c hc'; cases hc'), hrun]
  exact hK _ _ h
theorem wpListIn_str (hg : o.guard = none) (x : Operand) (ho : o.op = .convert 9 50 x) (s : ByteArray) (hx : a.eval x = .string s)
    (h9 : P.underlying 9 = some .string) (h50 : P.underlying 50 = some (.slice 5)) (h5 : P.underlying 5 = some (.int .u8))
    (h : wpListIn F n P ops Q rest (a.put o.dst (.slice (some ⟨w.heap.size, 0, none⟩) s.size (grownCap w s.size 0 5))) (Lib.bytesWorld w 5 s)) : wpListIn F n P ops Q (o :: rest) a w := by
  refine wpListIn_plain hg fun K hK => ?_
  unfold Oper.wpIn
  refine ⟨by simp [Oper.about, ho], ?_⟩
  rw [Oper.semAt_plain F _ _ (by rw [ho]; intro c hc'; cases hc'), str_value x ho s hx h9 h50 h5]
  exact hK _ _ h
theorem wpListIn_neq (hg : o.guard = none) (T T2 : TypeId) (x y : Operand) (ho : o.op = .binOp .neq T x y T2) (xs ys : Array Value) (hx : a.eval x = .agg xs) (hy : a.eval y = .agg ys) (hm : P.eqGuardType P.depth T = false)
    (b : Bool) (hl : ∀ w, (Op.equal T (.agg xs) (.agg ys)).run P w = .ok b w) (h : wpListIn F n P ops Q rest (a.put o.dst (.bool (!b))) w) : wpListIn F n P ops Q (o :: rest) a w := by
  refine wpListIn_plain hg fun K hK => ?_
  unfold Oper.wpIn
  refine ⟨by simp [Oper.about, ho], ?_⟩
  rw [Oper.semAt_plain F _ _ (by rw [ho]; intro c hc'; cases hc'), show (execOp a.eval o).run P w = .ok (.value (.bool (!b))) w from yield_neq T T2 x y ho xs ys hx hy hm (hl w)]
  exact hK _ _ h
end
def upL (s : Sm) : List Sm → Nat → Sm → Sm
  | [], _, now => now
  | o :: p, d, now => if bitI s d = 0 then nodeH (upL s p (d + 1) now) o else nodeH o (upL s p (d + 1) now)
def topOf (k : ByteArray) (p : List Sm) (e : Int) (l : Lf) : Sm := upL (hk k) p 0 (if e = 0 then zS else leafH l)
def checkB (root : Sm) (k : ByteArray) (p : List Sm) (e : Int) (l : Lf) : Sm × Bool × Bool :=
  if rightB k p.length e l = false then (zS, false, false) else if ¬ topOf k p e l = root then (zS, false, false) else if e = 1 then (l.v, true, true) else (zS, false, true)
theorem upL_step (s : Sm) (p : List Sm) (i : Nat) (hi : i < p.length) (now : Sm) : upL s (p.drop i) i now = if bitI s i = 0 then nodeH (upL s (p.drop (i + 1)) (i + 1) now) (p.getD i zS) else nodeH (p.getD i zS) (upL s (p.drop (i + 1)) (i + 1) now) := by
  rw [List.drop_eq_getElem_cons hi, upL, List.getD_eq_getElem?_getD, List.getElem?_eq_getElem hi]
  rfl
theorem cells_P3 {w : World} {g : Nat} {v : Value} {e : Int} {l : Lf} {t : Nat} {fr : Nat × Nat} (hg : w.heap[g]? = some (.cells (cP v e l) t fr)) : ∀ j u, (cS l.v).toList[j]? = some u → w.cell? ((⟨g, 3, none⟩ : Addr).add j) = some u := fun j u hj => by
  have h := at_L1 (ad := ⟨g, 2, none⟩) (cells_P2 hg) j u hj
  exact h
structure CheckI (wy : World) (s now : Sm) (W : World) (g9 : Nat) : Prop where
  now : W.heap[g9 + 1]? = some (.cells (cS now) 27 (0, 0))
  old : ∀ k, k < wy.heap.size → k ≠ g9 + 1 → W.heap[k]? = wy.heap[k]?
  os : W.os = wy.os
  tape : W.tape = wy.tape
  output : W.output = wy.output
  size : wy.heap.size ≤ W.heap.size
theorem CheckI.below {wy W : World} {s now : Sm} {g9 b : Nat} (h : CheckI wy s now W g9) (hb : b ≤ g9) (hz : b ≤ wy.heap.size) : Below b wy W := ⟨h.os, h.tape, h.output, h.size, fun k hk => h.old k (by omega) (by omega)⟩
end Go.Proofs.YtanabbjakacgbaaDoor.Sp

