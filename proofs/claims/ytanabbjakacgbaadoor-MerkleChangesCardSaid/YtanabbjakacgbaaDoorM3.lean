/- Put together by this session's program out of: Rh Ri Rj Rk Rl Rm Rn Ro St Rp Rng3 Rq. -/
import Derived.Test.YtanabbjakacgbaaDoorM2
import Derived.Test.YtanabbjakacgbaaDoorM0
namespace Go.Proofs.YtanabbjakacgbaaDoor.Sp
open Go.RowKit Go.Proofs.YtanabbjakacgbaaDoorW.PrintWords Go.Proofs.YtanabbjakacgbaaDoorW.PrintLast Go.Proofs.YtanabbjakacgbaaDoorW.PrintMore Go.Proofs.YtanabbjakacgbaaDoor.PM
set_option linter.unusedVariables false
set_option linter.unusedSimpArgs false
set_option maxRecDepth 100000
theorem all_one {cs : Array Value} (h : ∀ u ∈ cs.toList, u.oneCell' = true) : cs.all (·.oneCell') = true := Array.all_eq_true_iff_forall_mem.2 (fun v hv => h v (by simpa using hv))
theorem ld_I {w : World} {g : Nat} {t : TypeId} {x : It} {fr : Nat × Nat} (hg : w.heap[g]? = some (.cells (cI x) t fr)) (m : Nat) : (loadVar 79 ⟨g, 0, none⟩).run Tryd.prog (w.drewN m) = .ok (.agg (cI x)) (w.drewN m) :=
  load_row hg 79 Tryd.underlying79 rfl (by rw [cI_size]; kernel_rfl) m
set_option maxHeartbeats 4000000 in
theorem halfm_calls (l : List It) (d : Nat) (hd : d < 256) (b : Int) (A : Option Addr) (c : Nat) (w : World) (hr : kI.C w A l.length l) (hc : l.length ≤ c) (hl : l.length ≤ 100000) :
    Calls Tryd.prog 64 #[.slice A l.length c, .int .i64 d, .int .i64 b] w fun e w' => ∃ v, e = .returned v ∧ kI.R 79 w' w.heap.size (fun _ => True) v (halfOf l d b) ∧ Below w.heap.size w w' := by
  have HS := Aside0.mk hr
  clear hr
  go_enter Tryd.func64, Tryd.ntmps64
  go_wp2
  go_loopw [7, 12] (fun v i wr => ∃ n : Nat, i = .int .i64 (n : Int) ∧ n ≤ l.length ∧ Aside0 (kI.R 79 wr w.heap.size (fun _ => True) v (halfOf (l.take n) d b) ∧ Below w.heap.size w wr)) (fun _ i _ => l.length - (intOf i).toNat)
  case atStart => exact ⟨0, rfl, by omega, ⟨Kd.R_nil _ _ _ _ _, Below.refl _ _⟩⟩
  case round =>
    obtain ⟨n, rfl, hn, HR⟩ := hrel
    by_cases c5 : n < l.length
    · have c5b : (n : Int) < (l.length : Int) := by omega
      obtain ⟨y, hy⟩ : ∃ y, y = l.getD n zI := ⟨_, rfl⟩
      obtain ⟨ad, eA, hat⟩ := at_flat HS.out zI (n : Int) (by omega) c5b
      subst eA
      rw [show ((n : Int).toNat) = n by omega, ← hy] at hat
      have c5c := eq_true c5b
      have c5d : ((0 : Int) ≤ (n : Int)) = True := eq_true (by omega)
      have hl1 := le_I hat HR.out.2
      clear hat
      have HY := Aside0.mk hy
      clear hy
      have hsucc := Aside0.mk (halfOf_succ c5 d b)
      rw [← HY.out] at hsucc
      obtain ⟨β, hβ⟩ : ∃ β, bitI y.s d = β := ⟨_, rfl⟩
      by_cases hq : β = b
      · go_wp2_with (first
          | (refine wpList_loadv rfl _ _ rfl _ rfl _ (hl1 0) ?_)
          | ((with_reducible refine gate_store (t := 79) rfl ?_); (refine wpList_store_row rfl 79 (.tmp 9) (.tmp 15) rfl wr.heap.size (cI y) rfl rfl 79 (cI zI) (h_new rfl) ?g3 ?g4 (all_one (cI_one y)) ?_); (case g3 => rw [cI_size]; kernel_rfl); (case g4 => rw [cI_size, cI_size]); generalize hwv : World.setRow _ wr.heap.size (cI y) = wv; have hv1 : wv.heap[wr.heap.size]? = some (.cells (cI y) 79 (0, 0)) := (by rw [← hwv]; exact setRow_heap _ _ _ _ _ _ (h_new rfl)); have hvb : Below wr.heap.size wr wv := (by rw [← hwv]; exact below_setRow (below_alloc (Below.refl _ _) _) (Nat.le_refl _)); clear hwv; have hl2 := le_S (at_I1 (row_cells hv1)) (Below.refl _ _); have HV := Aside0.mk (And.intro hv1 hvb); clear hv1 hvb)
          | (refine wpList_loadv rfl _ _ rfl _ rfl _ (hl2 0) ?_)
          | (go_at_call 68; (refine (bitm_calls y.s d hd _).mono ?_); rw [hβ]; rintro e w1 ⟨rfl, hb1⟩; have hl3 := ld_I ((hb1.block _ (Array.getElem?_eq_some_iff.1 HV.out.1).1).trans HV.out.1); have hb2 := below_tr HV.out.2 hb1 HV.out.2.size; have H2 := Aside0.mk (And.intro (Kd.R_below HR.out.1 hb2) (below_tr HR.out.2 hb2 HR.out.2.size)); clear hb1 hb2 hl1 hl2)
          | (refine wpList_loadv rfl _ _ rfl _ rfl _ (hl3 0) ?_)
          | (refine bs1_I rfl (.tmp 23) rfl y rfl ?_)
          | (refine app_I (wa := w) rfl (.tmp 22) (.tmp 24) rfl u7 _ y rfl rfl w.heap.size H2.out.1 H2.out.2 H2.out.2.size (by have := halfOf_len (l.take n) d b; rw [List.length_take] at this; omega) ?_; intro v1 w1 hr1 hb1 hs1; have H1 := Aside0.mk (And.intro hr1 hb1); clear hr1 hb1 hs1))
        refine ⟨⟨n + 1, by simp, by omega, ⟨?_, H1.out.2⟩⟩, by simp [intOf]; omega⟩
        rw [hsucc.out, hβ, if_pos hq]
        exact H1.out.1
      · go_wp2_with (first
          | (refine wpList_loadv rfl _ _ rfl _ rfl _ (hl1 0) ?_)
          | ((with_reducible refine gate_store (t := 79) rfl ?_); (refine wpList_store_row rfl 79 (.tmp 9) (.tmp 15) rfl wr.heap.size (cI y) rfl rfl 79 (cI zI) (h_new rfl) ?g3 ?g4 (all_one (cI_one y)) ?_); (case g3 => rw [cI_size]; kernel_rfl); (case g4 => rw [cI_size, cI_size]); generalize hwv : World.setRow _ wr.heap.size (cI y) = wv; have hv1 : wv.heap[wr.heap.size]? = some (.cells (cI y) 79 (0, 0)) := (by rw [← hwv]; exact setRow_heap _ _ _ _ _ _ (h_new rfl)); have hvb : Below wr.heap.size wr wv := (by rw [← hwv]; exact below_setRow (below_alloc (Below.refl _ _) _) (Nat.le_refl _)); clear hwv; have hl2 := le_S (at_I1 (row_cells hv1)) (Below.refl _ _); have HV := Aside0.mk (And.intro hv1 hvb); clear hv1 hvb)
          | (refine wpList_loadv rfl _ _ rfl _ rfl _ (hl2 0) ?_)
          | (go_at_call 68; (refine (bitm_calls y.s d hd _).mono ?_); rw [hβ]; rintro e w1 ⟨rfl, hb1⟩; have hb2 := below_tr HV.out.2 hb1 HV.out.2.size; have H2 := Aside0.mk (And.intro (Kd.R_below HR.out.1 hb2) (below_tr HR.out.2 hb2 HR.out.2.size)); clear hb1 hb2 hl1 hl2))
        refine ⟨⟨n + 1, by simp, by omega, ⟨?_, H2.out.2⟩⟩, by simp [intOf]; omega⟩
        rw [hsucc.out, hβ, if_neg hq, List.append_nil]
        exact H2.out.1
    · obtain rfl : n = l.length := by omega
      go_wp2
      go_ret
      exact ⟨_, rfl, by have := HR.out.1; rwa [List.take_length] at this, HR.out.2⟩
end Go.Proofs.YtanabbjakacgbaaDoor.Sp
namespace Go.Proofs.YtanabbjakacgbaaDoor.Sp
open Go.RowKit Go.Proofs.YtanabbjakacgbaaDoorW.PrintWords Go.Proofs.YtanabbjakacgbaaDoorW.PrintLast Go.Proofs.YtanabbjakacgbaaDoorW.PrintMore Go.Proofs.YtanabbjakacgbaaDoor.PM
set_option linter.unusedVariables false
set_option linter.unusedSimpArgs false
set_option maxRecDepth 100000
theorem put_I {W : World} {B g n cap : Nat} {xs : List It} (h : kI.R 79 W B (fun _ => True) (.slice (some ⟨g, 0, none⟩) n cap) xs) (i : Nat) (hi : i < n) (y : It) :
    W.there g (i * 65) 65 ∧ kI.R 79 (W.setCells g (i * 65) (cI y).toList) B (fun _ => True) (.slice (some ⟨g, 0, none⟩) n cap) (xs.set i y) ∧ W.grownBy (W.setCells g (i * 65) (cI y).toList) (some g) := by
  obtain ⟨c, hcl, hM, hcc, hfr⟩ := Kd.R_elem h zI (i : Int) (by omega) (by omega)
  have hcl : c.length = 65 := hcl
  have hcc : ∀ j u, c[j]? = some u → W.cell? ⟨g, i * 65 + j, none⟩ = some u := hcc
  have hp := Kd.R_seg h (i : Int) (by omega) (by omega) (c := c) (seg := (cI y).toList) (j := 0) (x' := y) (okp := fun _ => False) hcl hcc (by rw [Array.length_toList, cI_size]; exact Nat.le_refl 65) (by rw [List.take_zero, List.nil_append, List.drop_of_length_le (by show c.length ≤ 0 + (cI y).toList.length; rw [Array.length_toList (xs := cI y), cI_size, hcl]; omega), List.append_nil]; exact rfl) (fun _ hk => hk.elim)
  refine ⟨fun j hj => ⟨?_, hfr j⟩, hp.1, hp.2⟩
  have hj' : j < c.length := by omega
  rw [hcc j _ (List.getElem?_eq_getElem hj')]
  rfl
theorem set_rep {α : Type} (a : List α) (z y : α) (m : Nat) : (a ++ List.replicate (m + 1) z).set a.length y = (a ++ [y]) ++ List.replicate m z := by
  rw [List.set_append_right _ _ (Nat.le_refl _), Nat.sub_self, List.replicate_succ, List.set_cons_zero, List.append_assoc]
  rfl
set_option maxHeartbeats 4000000 in
theorem itemsm_calls (l : List Lf) (A : Option Addr) (c : Nat) (w : World) (hW : Words w) (hr : kL.C w A l.length l) (hc : l.length ≤ c) (hl : Small l) :
    Calls Tryd.prog 39 #[.slice A l.length c] w fun e w' => ∃ v, e = .returned v ∧ kI.R 79 w' w.heap.size (fun _ => True) v (itemsOf l) ∧ Below w.heap.size w w' := by
  have HS := Aside0.mk hr
  have HL := Aside0.mk hl.2
  have HW := Aside0.mk hW
  have hl := hl.1
  clear hr hW
  go_enter Tryd.func39, Tryd.ntmps39
  go_wp2_with (first
    | ((with_reducible refine gate_dst (N := 8) rfl ?_); (refine Kd.R_make kI (w0 := w) w.heap.size 79 rfl (N := 8) rfl 70 _ _ rfl (l.length : Int) rfl rfl Tryd.underlying70 (.agg (cI zI)) 80 infoI (cI_size _) (by decide) (by decide) zI (ok := fun _ => True) (okp := fun _ => False) rfl (fun _ hk => hk.elim) trivial (by omega) (by rw [Int.toNat_natCast]; omega) (Below.refl _ _) (Nat.le_refl _) ?_); intro v1 w1 hr1 hb1 hg1 hn1; have H0 := Aside0.mk (And.intro hr1 hb1); clear hr1 hb1 hg1 hn1))
  go_loopw [11] (fun i wr => ∃ n : Nat, i = .int .i64 (n : Int) ∧ n ≤ l.length ∧ Aside0 (kI.R 79 wr w.heap.size (fun _ => True) v1 (itemsOf (l.take n) ++ List.replicate (l.length - n) zI) ∧ Below w.heap.size w wr)) (fun i _ => l.length - (intOf i).toNat)
  case atStart => exact ⟨0, rfl, by omega, ⟨by have := H0.out.1; rwa [Int.toNat_natCast] at this, H0.out.2⟩⟩
  case round =>
    clear H0
    obtain ⟨n, rfl, hn, HR⟩ := hrel
    by_cases c5 : n < l.length
    · have c5b : (n : Int) < (l.length : Int) := by omega
      obtain ⟨y, hy⟩ : ∃ y, y = l.getD n zL := ⟨_, rfl⟩
      obtain ⟨ad, eA, hat⟩ := at_flat HS.out zL (n : Int) (by omega) c5b
      subst eA
      rw [show ((n : Int).toNat) = n by omega, ← hy] at hat
      have c5c := eq_true c5b
      have c5d : ((0 : Int) ≤ (n : Int)) = True := eq_true (by omega)
      have hl1 := le_L hat HR.out.2
      have hkey : y.k.size ≤ 1000000 := HL.out y (by rw [hy]; exact getD_mem' c5)
      clear hat
      have HY := Aside0.mk hy
      clear hy
      have hxl : (itemsOf (l.take n) ++ List.replicate (l.length - n) zI).length = l.length := by rw [List.length_append, List.length_replicate, itemsOf, List.length_map, List.length_take]; omega
      obtain ⟨go, cap, ev, hgb, hgo, _⟩ := Kd.R_form HR.out.1 (by rw [hxl]; omega)
      rw [hxl] at ev
      subst ev
      obtain ⟨s, hs⟩ : ∃ s, hk y.k = s := ⟨_, rfl⟩
      have HZ := Aside0.mk (show itemOf y = ⟨y, s⟩ by rw [itemOf, hs])
      have HX := Aside0.mk hxl
      clear hxl
      go_wp2_with (first
        | (refine wpList_loadv rfl _ _ rfl _ rfl _ (hl1 0) ?_)
        | ((with_reducible refine gate_store (t := 33) rfl ?_); (refine wpList_store_row rfl 33 (.tmp 5) (.tmp 15) rfl wr.heap.size (cL y) rfl rfl 33 (cL zL) (h_new rfl) ?g3 ?g4 (all_one (cL_one y)) ?_); (case g3 => rw [cL_size]; kernel_rfl); (case g4 => rw [cL_size, cL_size]); generalize hwv : World.setRow _ wr.heap.size (cL y) = wv; have hv1 : wv.heap[wr.heap.size]? = some (.cells (cL y) 33 (0, 0)) := (by rw [← hwv]; exact setRow_heap _ _ _ _ _ _ (h_new rfl)); have hvb : Below wr.heap.size wr wv := (by rw [← hwv]; exact below_setRow (below_alloc (Below.refl _ _) _) (Nat.le_refl _)); clear hwv hl1; have HV := Aside0.mk (And.intro hv1 hvb); clear hv1 hvb))
      have hcv := cell_L0 HV.out.1
      have HC := Aside0.mk hcv
      clear hcv
      refine start_ (n := 10) (S := fun w' => Below wv.heap.size wv w') (ds := [7, 8, 9]) #[false, false, false, false, false, false, false, false, false, false] (by kernel_rfl) rfl rfl (Below.refl _ _).drew (fun hHeld => ?_)
      refine pure_ (i := 0) (N := some 16) (v := ?_) (a' := ?_) #[true, false, false, false, false, false, false, false, false, false] rfl rfl (by kernel_rfl) (fun _ _ _ h => h) (Or.inl ⟨by rfl, ?_⟩) ?_ ?_
      rotate_left
      · intro w'
        go_simp
        with_reducible rfl
      rotate_left
      · simp only [Act.put, List.setIfInBounds_toArray, List.set_cons_zero, List.set_cons_succ, i64_w, i32_w]
        rfl
      refine pure_ (i := 1) (N := some 17) (v := ?_) (a' := ?_) #[true, true, false, false, false, false, false, false, false, false] rfl rfl (by kernel_rfl) (fun _ _ _ h => h) (Or.inl ⟨by rfl, ?_⟩) ?_ ?_
      rotate_left
      · intro w'
        go_simp
        with_reducible rfl
      rotate_left
      · simp only [Act.put, List.setIfInBounds_toArray, List.set_cons_zero, List.set_cons_succ, i64_w, i32_w]
        rfl
      refine take_ (i := 2) (N := some 18) (v := .agg (cL y)) (a' := ?_) #[true, true, true, false, false, false, false, false, false, false] rfl rfl (by kernel_rfl) (fun _ _ _ h => h) (Or.inl ⟨by rfl, fun w' hS => yield_load _ _ rfl _ rfl (ld_L ((hS.block _ (Array.getElem?_eq_some_iff.1 HV.out.1).1).trans HV.out.1) 0)⟩) hHeld ?_ ?_
      rotate_left
      · simp only [Act.put, List.setIfInBounds_toArray, List.set_cons_zero, List.set_cons_succ, i64_w, i32_w]
        rfl
      refine pure_ (i := 3) (N := some 19) (v := ?_) (a' := ?_) #[true, true, true, true, false, false, false, false, false, false] rfl rfl (by kernel_rfl) (fun _ _ _ h => h) (Or.inl ⟨by rfl, ?_⟩) ?_ ?_
      rotate_left
      · intro w'
        go_simp
        with_reducible rfl
      rotate_left
      · simp only [Act.put, List.setIfInBounds_toArray, List.set_cons_zero, List.set_cons_succ, i64_w, i32_w]
        rfl
      refine take_ (i := 4) (N := some 20) (v := ?_) (a' := ?_) #[true, true, true, true, true, false, false, false, false, false] rfl rfl (by kernel_rfl) (fun _ _ _ h => h) (Or.inl ⟨by rfl, ?_⟩) hHeld ?_ ?_
      rotate_left
      · intro w' hS
        have hx := (hS.cell (World.block_lt_of_cell? _ _ HC.out)).trans HC.out
        go_simp
        with_reducible rfl
      rotate_left
      · simp only [Act.put, List.setIfInBounds_toArray, List.set_cons_zero, List.set_cons_succ, i64_w, i32_w]
        rfl
      refine one_ (i := 5) (N := some 21) #[true, true, true, true, true, true, false, false, false, false] rfl rfl (by kernel_rfl) (by decide) (fun K hK => ?_)
      refine value_ (by rfl) rfl (str_value _ rfl y.k rfl Tryd.underlying9 Tryd.underlying50 Tryd.underlying5) ?_
      refine hK.out _ _ (below_tr hHeld (bytes_below' _ _) hHeld.size) (fun hHeld => ?_)
      clear hK K
      refine norm_ (a' := ?_) ?_ ?_
      rotate_left
      · show Act.put _ (some 21) _ = _
        simp only [Act.put, List.setIfInBounds_toArray, List.set_cons_zero, List.set_cons_succ, i64_w, i32_w]
        rfl
      refine one_ (i := 6) (N := some 22) #[true, true, true, true, true, true, true, false, false, false] rfl rfl (by kernel_rfl) (by decide) (fun K hK => ?_)
      refine goes_ Tryd.func65 (by kernel_rfl) rfl #[.slice (some ⟨wv.drew.heap.size, 0, none⟩) y.k.size (grownCap wv.drew y.k.size 0 5)] (by rfl) rfl rfl (by simp only [List.map_toArray, List.map_cons, List.map_nil]; rfl) ?_
      refine (sumKm_calls y.k hkey wv.drew (HW.out.below ((HR.out.2.trans (HV.out.2.mono HR.out.2.size)).drew))).mono ?_
      rw [hs]
      rintro e w3 ⟨rfl, hb3⟩
      refine ⟨_, rfl, ?_⟩
      refine hK.out _ _ (below_tr hHeld hb3 hHeld.size) (fun hHeld => ?_)
      clear hK K
      refine norm_ (a' := ?_) ?_ ?_
      rotate_left
      · show Act.put _ (some 22) _ = _
        simp only [Act.put, List.setIfInBounds_toArray, List.set_cons_zero, List.set_cons_succ, i64_w, i32_w]
        rfl
      have hB3 := below_tr HR.out.2 (below_tr HV.out.2 hHeld HV.out.2.size) HR.out.2.size
      have hR3 := Kd.R_below HR.out.1 (below_tr HV.out.2 hHeld HV.out.2.size)
      obtain ⟨hth, hR4, hG4⟩ := put_I hR3 n c5 ⟨y, s⟩
      have HG := Aside0.mk (⟨hR4, hB3.grown hG4 hB3.size (fun k hk => by obtain rfl := Option.some.inj hk; exact hgb)⟩ : _ ∧ _)
      clear hR4 hG4 hR3
      have HT := Aside0.mk hth
      clear hth
      refine tail_ 7 (by kernel_rfl) ?_
      simp only [List.toList_toArray, List.drop_succ_cons, List.drop_zero]
      have c6c : ((n : Int) < (l.length : Int)) = True := eq_true (by omega)
      go_wp2_with (first
        | (refine bld_I rfl (.tmp 18) (.tmp 22) rfl y s rfl rfl ?_)
        | ((with_reducible refine gate_store (t := 79) rfl ?_); (refine wpList_store_mid rfl 79 (.tmp 24) (.tmp 23) rfl go (n * 65) (cI ⟨y, s⟩) rfl rfl ?g3 ?g4 (all_one (cI_one _)) ?_); (case g3 => rw [cI_size]; exact HT.out); (case g4 => rw [cI_size]; kernel_rfl)))
      refine ⟨⟨n + 1, by simp, by omega, ⟨?_, HG.out.2⟩⟩, by simp [intOf]; omega⟩
      have h := HG.out.1
      have hln : (itemsOf (l.take n)).length = n := by rw [itemsOf, List.length_map, List.length_take]; omega
      have e : (itemsOf (l.take n) ++ List.replicate (l.length - n) zI).set n ⟨y, s⟩ = itemsOf (l.take (n + 1)) ++ List.replicate (l.length - (n + 1)) zI := by
        have h2 := set_rep (itemsOf (l.take n)) zI ⟨y, s⟩ (l.length - (n + 1))
        rw [hln, show l.length - (n + 1) + 1 = l.length - n by omega] at h2
        rw [h2, take_succ' zL c5, ← HY.out]
        congr 1
        rw [itemsOf, itemsOf, List.map_append, List.map_singleton, HZ.out]
      rw [e] at h
      exact h
    · obtain rfl : n = l.length := by omega
      go_wp2
      go_ret
      exact ⟨_, rfl, by have := HR.out.1; rwa [List.take_length, Nat.sub_self, List.replicate_zero, List.append_nil] at this, HR.out.2⟩
end Go.Proofs.YtanabbjakacgbaaDoor.Sp
namespace Go.Proofs.YtanabbjakacgbaaDoor.Sp
open Go.RowKit Go.Proofs.YtanabbjakacgbaaDoorW.PrintWords Go.Proofs.YtanabbjakacgbaaDoorW.PrintLast Go.Proofs.YtanabbjakacgbaaDoorW.PrintMore Go.Proofs.YtanabbjakacgbaaDoor.PM
set_option linter.unusedVariables false
set_option linter.unusedSimpArgs false
set_option maxRecDepth 100000
def hashF : Nat → List It → Nat → Sm
  | 0, l, d => leafH (l.getD 0 zI).x
  | k + 1, l, d => if l.length = 0 then zS else if endsOf l d = true then leafH (l.getD 0 zI).x else nodeH (hashF k (halfOf l d 0) (d + 1)) (hashF k (halfOf l d 1) (d + 1))
def hashOf (l : List It) (d : Nat) : Sm := hashF (257 - d) l d
theorem hashOf_eq (l : List It) (d : Nat) (hd : d ≤ 256) : hashOf l d = if l.length = 0 then zS else if endsOf l d = true then leafH (l.getD 0 zI).x else nodeH (hashOf (halfOf l d 0) (d + 1)) (hashOf (halfOf l d 1) (d + 1)) := by
  rw [hashOf, show 257 - d = (256 - d) + 1 by omega, hashF, hashOf, hashOf, show 257 - (d + 1) = 256 - d by omega]
def SmI (l : List It) : Prop := l.length ≤ 100000 ∧ ∀ y ∈ l, y.x.k.size ≤ 100000
theorem SmI.half {l : List It} (h : SmI l) (d : Nat) (b : Int) : SmI (halfOf l d b) := ⟨Nat.le_trans (halfOf_len _ _ _) h.1, fun y hy => h.2 y (List.mem_filter.1 hy).1⟩
theorem ends_lt {l : List It} {d : Nat} (h : endsOf l d = false) : d < 256 ∧ 1 < l.length := by
  simp only [endsOf, Bool.or_eq_false_iff, decide_eq_false_iff_not] at h
  omega
set_option maxHeartbeats 8000000 in
theorem hashm_step (d : Nat) (hd : d ≤ 256) (ih : d < 256 → ∀ (l : List It) (A : Option Addr) (c : Nat) (w : World), SmI l → Words w → kI.C w A l.length l → l.length ≤ c →
      Calls Tryd.prog 38 #[.slice A l.length c, .int .i64 ((d : Int) + 1)] w fun e w' => e = .returned (.agg (cS (hashOf l (d + 1)))) ∧ Below w.heap.size w w')
    (l : List It) (A : Option Addr) (c : Nat) (w : World) (hl : SmI l) (hW : Words w) (hr : kI.C w A l.length l) (hc : l.length ≤ c) :
    Calls Tryd.prog 38 #[.slice A l.length c, .int .i64 d] w fun e w' => e = .returned (.agg (cS (hashOf l d))) ∧ Below w.heap.size w w' := by
  have hu27 := Tryd.underlying27
  obtain ⟨g, hg⟩ : ∃ g, g = w.heap.size := ⟨_, rfl⟩
  obtain ⟨wb, hwb⟩ : ∃ wb, wb = w.alloc (.cells (cS zS) 27) := ⟨_, rfl⟩
  have h0 : wb.heap[g]? = some (.cells (cS zS) 27 (0, 0)) := by rw [hwb]; exact h_new hg
  have hb : Below w.heap.size w wb := by rw [hwb]; exact below_alloc (Below.refl _ _) _
  have hs : wb.heap.size = g + 1 := by rw [hwb, size_alloc, hg]
  have HB := Aside0.mk (⟨h0, hb, hs, hW.below hb, Kd.C_below hr hb⟩ : _ ∧ _ ∧ _ ∧ _ ∧ _)
  have HWB := Aside0.mk (show w.alloc (.cells #[.int .u8 0, .int .u8 0, .int .u8 0, .int .u8 0, .int .u8 0, .int .u8 0, .int .u8 0, .int .u8 0, .int .u8 0, .int .u8 0, .int .u8 0, .int .u8 0, .int .u8 0, .int .u8 0, .int .u8 0, .int .u8 0, .int .u8 0, .int .u8 0, .int .u8 0, .int .u8 0, .int .u8 0, .int .u8 0, .int .u8 0, .int .u8 0, .int .u8 0, .int .u8 0, .int .u8 0, .int .u8 0, .int .u8 0, .int .u8 0, .int .u8 0, .int .u8 0] 27) = wb by rw [hwb, zS_cells])
  clear h0 hb hs hW hwb hr
  have HG := Aside0.mk hg
  clear hg
  obtain ⟨T, hT⟩ : ∃ T, T = hashOf l d := ⟨_, rfl⟩
  have HT := Aside0.mk (hT.trans (hashOf_eq l d hd))
  rw [← hT]
  clear hT
  have HL := Aside0.mk hl
  have hl0 := hl.1
  clear hl
  have HIH := Aside0.mk ih
  clear ih
  go_enter Tryd.func38, Tryd.ntmps38
  by_cases h0 : l.length = 0
  · have h0b : ((l.length : Int) == 0) = true := by simp [h0]
    have hT0 : T = zS := by rw [HT.out, if_pos h0]
    subst hT0
    go_wp2_with (first
      | ((with_reducible refine gate_dst (N := 9) rfl ?_); (refine wpList_built0 rfl 27 rfl (cS zS) (by kernel_rfl) ?_))
      | ((with_reducible refine gate_store (t := 27) rfl ?_); rw [HWB.out, ← HG.out]; (refine wpList_store_row rfl 27 (.tmp 4) (.tmp 9) rfl g (cS zS) rfl rfl 27 (cS zS) HB.out.1 ?g3 ?g4 (encI_one _) ?_); (case g3 => rw [cS_size]; kernel_rfl); (case g4 => rw [cS_size])))
    refine bodyPost_ret (v := .agg (cS zS)) ?_ rfl ⟨rfl, below_setRow HB.out.2.1 (by have := HG.out; omega)⟩
    exact results_cell_row rfl _ _ g 27 _ (0, 0) _ rfl (setRow_heap _ _ _ _ _ _ HB.out.1) hu27 rfl (by rw [cS_size]; kernel_rfl)
  · have h0b : ((l.length : Int) == 0) = false := by simp [h0]
    have h0c : ¬ ((l.length : Int) = 0) := by omega
    by_cases hen : endsOf l d = true
    · obtain ⟨y, hy⟩ : ∃ y, y = l.getD 0 zI := ⟨_, rfl⟩
      have hT1 : leafH y.x = T := by rw [HT.out, if_neg h0, if_pos hen, hy]
      obtain ⟨ad, eA, hat⟩ := at_flat HB.out.2.2.2.2 zI (0 : Int) (by omega) (by omega)
      subst eA
      rw [show ((0 : Int).toNat) = 0 from rfl, ← hy, Nat.zero_mul, Addr.add_zero'] at hat
      have hl1 := le_L (at_I0 hat) (Below.refl _ _)
      have hky : y.x.k.size ≤ 100000 := HL.out.2 y (by rw [hy]; exact getD_mem' (by omega))
      clear hat
      have HY := Aside0.mk hy
      clear hy
      have c5b : ((0 : Int) < (l.length : Int)) = True := eq_true (by omega)
      have c5n : (0 < l.length) = True := eq_true (by omega)
      go_wp2_with (first
        | (go_at_call 61; rw [HWB.out, ← HG.out]; (refine (endsm_calls l d hd _ _ _).mono ?_); rw [hen]; rintro e w1 ⟨rfl, e1⟩; rw [e1]; clear e1)
        | (refine wpList_loadv rfl _ _ rfl _ rfl _ (hl1 0) ?_)
        | (go_at_call 62; (refine (leafm_calls y.x hky _ HB.out.2.2.2.1).mono ?_); rw [hT1]; rintro e w1 ⟨rfl, hb1⟩; have H1 := Aside0.mk hb1; clear hb1)
        | ((with_reducible refine gate_store (t := 27) rfl ?_); (refine wpList_store_row rfl 27 (.tmp 4) (.tmp 18) rfl g (cS T) rfl rfl 27 (cS zS) ((H1.out.block _ (by have := HB.out.2.2.1; omega)).trans HB.out.1) ?g3 ?g4 (encI_one _) ?_); (case g3 => rw [cS_size]; kernel_rfl); (case g4 => rw [cS_size, cS_size])))
      refine bodyPost_ret (v := .agg (cS T)) ?_ rfl ⟨rfl, below_setRow (HB.out.2.1.trans (H1.out.mono (by have := HB.out.2.2.1; have := HG.out; omega))) (by have := HG.out; omega)⟩
      exact results_cell_row rfl _ _ g 27 _ (0, 0) _ rfl (setRow_heap _ _ _ _ _ _ ((H1.out.block g (by have := HB.out.2.2.1; omega)).trans HB.out.1)) hu27 rfl (by rw [cS_size]; kernel_rfl)
    · have hen0 : endsOf l d = false := by simpa using hen
      obtain ⟨hd1, hl1⟩ := ends_lt hen0
      obtain ⟨L0, hL0⟩ : ∃ x, halfOf l d 0 = x := ⟨_, rfl⟩
      obtain ⟨L1, hL1⟩ : ∃ x, halfOf l d 1 = x := ⟨_, rfl⟩
      have HS0 := Aside0.mk (show SmI L0 by rw [← hL0]; exact HL.out.half d 0)
      have HS1 := Aside0.mk (show SmI L1 by rw [← hL1]; exact HL.out.half d 1)
      obtain ⟨p, hp⟩ : ∃ p, p = hashOf L0 (d + 1) := ⟨_, rfl⟩
      obtain ⟨q, hq⟩ : ∃ q, q = hashOf L1 (d + 1) := ⟨_, rfl⟩
      have hT1 : nodeH p q = T := by rw [HT.out, if_neg h0, if_neg hen, hL0, hL1, hp, hq]
      have HP := Aside0.mk (And.intro hp hq)
      have HH := Aside0.mk (And.intro hL0 hL1)
      clear hp hq hL0 hL1
      go_wp2_with (first
        | (go_at_call 61; rw [HWB.out, ← HG.out]; (with_reducible refine (endsm_calls l d hd _ _ _).mono ?_); rw [hen0]; rintro e w1 ⟨rfl, e1⟩; rw [e1]; clear e1)
        | (go_at_call 64; (with_reducible refine (halfm_calls l d hd1 0 A c wb HB.out.2.2.2.2 hc hl0).mono ?_); rw [HH.out.1]; rintro e w1 ⟨v1, rfl, hv1, hb1⟩; obtain ⟨A1, c1, rfl, hc1, hr1⟩ := Kd.R_reads hv1; have H1 := Aside0.mk (⟨hr1, hb1, HB.out.2.2.2.1.below hb1, Kd.C_below HB.out.2.2.2.2 hb1⟩ : _ ∧ _ ∧ _ ∧ _); clear hr1 hb1 hv1)
        | (go_at_call 38; (with_reducible refine (HIH.out hd1 L0 A1 c1 _ HS0.out H1.out.2.2.1 H1.out.1 hc1).mono ?_); rw [← HP.out.1]; rintro e w2 ⟨rfl, hb2⟩; have H2 := Aside0.mk (⟨below_tr H1.out.2.1 hb2 H1.out.2.1.size, H1.out.2.2.1.below hb2, Kd.C_below H1.out.2.2.2 hb2⟩ : _ ∧ _ ∧ _); clear hb2)
        | (go_at_call 64; (with_reducible refine (halfm_calls l d hd1 1 A c _ H2.out.2.2 hc hl0).mono ?_); rw [HH.out.2]; rintro e w3 ⟨v3, rfl, hv3, hb3⟩; obtain ⟨A3, c3, rfl, hc3, hr3⟩ := Kd.R_reads hv3; have H3 := Aside0.mk (⟨hr3, below_tr H2.out.1 hb3 H2.out.1.size, H2.out.2.1.below hb3⟩ : _ ∧ _ ∧ _); clear hr3 hb3 hv3)
        | (go_at_call 38; (with_reducible refine (HIH.out hd1 L1 A3 c3 _ HS1.out H3.out.2.2 H3.out.1 hc3).mono ?_); rw [← HP.out.2]; rintro e w4 ⟨rfl, hb4⟩; have H4 := Aside0.mk (⟨below_tr H3.out.2.1 hb4 H3.out.2.1.size, H3.out.2.2.below hb4⟩ : _ ∧ _); clear hb4)
        | (go_at_call 63; (with_reducible refine (nodem_calls p q _ H4.out.2).mono ?_); rw [hT1]; rintro e w5 ⟨rfl, hb5⟩; have H5 := Aside0.mk (below_tr H4.out.1 hb5 H4.out.1.size); clear hb5)
        | ((with_reducible refine gate_store (t := 27) rfl ?_); (refine wpList_store_row rfl 27 (.tmp 4) (.tmp 31) rfl g (cS T) rfl rfl 27 (cS zS) ((H5.out.block _ (by have := HB.out.2.2.1; omega)).trans HB.out.1) ?g3 ?g4 (encI_one _) ?_); (case g3 => rw [cS_size]; kernel_rfl); (case g4 => rw [cS_size, cS_size])))
      refine bodyPost_ret (v := .agg (cS T)) ?_ rfl ⟨rfl, below_setRow (HB.out.2.1.trans (H5.out.mono (by have := HB.out.2.2.1; have := HG.out; omega))) (by have := HG.out; omega)⟩
      exact results_cell_row rfl _ _ g 27 _ (0, 0) _ rfl (setRow_heap _ _ _ _ _ _ ((H5.out.block g (by have := HB.out.2.2.1; omega)).trans HB.out.1)) hu27 rfl (by rw [cS_size]; kernel_rfl)
theorem hashm_ind : ∀ (k d : Nat), 256 - d = k → d ≤ 256 → ∀ (l : List It) (A : Option Addr) (c : Nat) (w : World), SmI l → Words w → kI.C w A l.length l → l.length ≤ c →
    Calls Tryd.prog 38 #[.slice A l.length c, .int .i64 d] w fun e w' => e = .returned (.agg (cS (hashOf l d))) ∧ Below w.heap.size w w' := by
  intro k
  induction k with
  | zero => exact fun d hk hd l A c w h1 h2 h3 h4 => hashm_step d hd (fun h => by omega) l A c w h1 h2 h3 h4
  | succ k ih =>
    intro d hk hd l A c w h1 h2 h3 h4
    refine hashm_step d hd (fun h l A c w h1 h2 h3 h4 => ?_) l A c w h1 h2 h3 h4
    have := ih (d + 1) (by omega) (by omega) l A c w h1 h2 h3 h4
    rwa [show ((d + 1 : Nat) : Int) = (d : Int) + 1 by omega] at this
theorem hashm_calls (l : List It) (d : Nat) (hd : d ≤ 256) (A : Option Addr) (c : Nat) (w : World) (hl : SmI l) (hW : Words w) (hr : kI.C w A l.length l) (hc : l.length ≤ c) :
    Calls Tryd.prog 38 #[.slice A l.length c, .int .i64 d] w fun e w' => e = .returned (.agg (cS (hashOf l d))) ∧ Below w.heap.size w w' := hashm_ind (256 - d) d rfl hd l A c w hl hW hr hc
end Go.Proofs.YtanabbjakacgbaaDoor.Sp
namespace Go.Proofs.YtanabbjakacgbaaDoor.Sp
open Go.RowKit Go.Proofs.YtanabbjakacgbaaDoorW.PrintWords Go.Proofs.YtanabbjakacgbaaDoorW.PrintLast Go.Proofs.YtanabbjakacgbaaDoorW.PrintMore Go.Proofs.YtanabbjakacgbaaDoor.PM
set_option linter.unusedVariables false
set_option linter.unusedSimpArgs false
set_option maxRecDepth 100000
def Rob (w : World) (A : Option Addr) (c : Nat) (ps : List (List Int)) : Prop :=
  ps.length ≤ c ∧ ∀ W : World, (∀ (k : Nat) (o : Obj), w.heap[k]? = some o → (∀ cells fr, o ≠ Obj.cells cells 91 fr) → W.heap[k]? = some o) → Kd.C (Kd.slice 5 (Kd.int .u8)) W A ps.length ps
theorem Rob.now {w : World} {A : Option Addr} {c : Nat} {ps : List (List Int)} (h : Rob w A c ps) : Kd.C (Kd.slice 5 (Kd.int .u8)) w A ps.length ps := h.2 w (fun _ _ h _ => h)
theorem Rob.below {w w1 : World} {A : Option Addr} {c : Nat} {ps : List (List Int)} (h : Rob w A c ps) (hb : Below w.heap.size w w1) : Rob w1 A c ps :=
  ⟨h.1, fun W hW => h.2 W (fun k o hk ho => hW k o ((hb.block k (Array.getElem?_eq_some_iff.1 hk).1).trans hk) ho)⟩
theorem Rob.grown {w w1 : World} {A : Option Addr} {c : Nat} {ps : List (List Int)} (h : Rob w A c ps) {g : Nat} {cells : Array Value} {fr : Nat × Nat} (hg : w.grownBy w1 (some g)) (ho : w.heap[g]? = some (.cells cells 91 fr)) : Rob w1 A c ps :=
  ⟨h.1, fun W hW => h.2 W (fun k o hk hn => hW k o ((hg.block k (Array.getElem?_eq_some_iff.1 hk).1 (fun e => by
    obtain rfl := Option.some.inj e
    rw [ho] at hk
    exact hn _ _ (Option.some.inj hk).symm)).trans hk) hn)⟩
end Go.Proofs.YtanabbjakacgbaaDoor.Sp
namespace Go.Proofs.YtanabbjakacgbaaDoor.Sp
open Go.RowKit Go.Proofs.YtanabbjakacgbaaDoorW.PrintWords Go.Proofs.YtanabbjakacgbaaDoorW.PrintLast Go.Proofs.YtanabbjakacgbaaDoorW.PrintMore Go.Proofs.YtanabbjakacgbaaDoor.PM
set_option linter.unusedVariables false
set_option linter.unusedSimpArgs false
set_option maxRecDepth 100000
end Go.Proofs.YtanabbjakacgbaaDoor.Sp
namespace Go.Proofs.YtanabbjakacgbaaDoor.Sp
open Go.RowKit Go.Proofs.YtanabbjakacgbaaDoorW.PrintWords Go.Proofs.YtanabbjakacgbaaDoorW.PrintLast Go.Proofs.YtanabbjakacgbaaDoorW.PrintMore Go.Proofs.YtanabbjakacgbaaDoor.PM
set_option linter.unusedVariables false
set_option linter.unusedSimpArgs false
set_option maxRecDepth 100000
end Go.Proofs.YtanabbjakacgbaaDoor.Sp
namespace Go.Proofs.YtanabbjakacgbaaDoor.Sp
open Go.RowKit Go.Proofs.YtanabbjakacgbaaDoorW.PrintWords Go.Proofs.YtanabbjakacgbaaDoorW.PrintLast Go.Proofs.YtanabbjakacgbaaDoorW.PrintMore Go.Proofs.YtanabbjakacgbaaDoor.PM
set_option linter.unusedVariables false
set_option linter.unusedSimpArgs false
set_option maxRecDepth 100000
theorem zw (w : World) : w.alloc (.cells (cS zS) 27) = w.alloc (.cells #[.int .u8 0, .int .u8 0, .int .u8 0, .int .u8 0, .int .u8 0, .int .u8 0, .int .u8 0, .int .u8 0, .int .u8 0, .int .u8 0, .int .u8 0, .int .u8 0, .int .u8 0, .int .u8 0, .int .u8 0, .int .u8 0, .int .u8 0, .int .u8 0, .int .u8 0, .int .u8 0, .int .u8 0, .int .u8 0, .int .u8 0, .int .u8 0, .int .u8 0, .int .u8 0, .int .u8 0, .int .u8 0, .int .u8 0, .int .u8 0, .int .u8 0, .int .u8 0] 27) := by rw [zS_cells]
theorem itemsOf_len (l : List Lf) : (itemsOf l).length = l.length := List.length_map _
def SmL (l : List Lf) : Prop := l.length ≤ 100000 ∧ ∀ x ∈ l, x.k.size ≤ 100000
theorem SmL.small {l : List Lf} (h : SmL l) : Small l := ⟨h.1, fun x hx => by have := h.2 x hx; omega⟩
theorem SmL.items {l : List Lf} (h : SmL l) : SmI (itemsOf l) := ⟨by rw [itemsOf_len]; exact h.1, fun y hy => by
  obtain ⟨x, hx, rfl⟩ := List.mem_map.1 hy
  exact h.2 x hx⟩
set_option maxHeartbeats 4000000 in
theorem Rootm_calls (l : List Lf) (A : Option Addr) (c : Nat) (w : World) (hW : Words w) (hr : kL.C w A l.length l) (hc : l.length ≤ c) (hl : SmL l) :
    Calls Tryd.prog 12 #[.slice A l.length c] w fun e w' => e = .returned (.agg (cS (hashOf (itemsOf l) 0))) ∧ Below w.heap.size w w' := by
  have hu27 := Tryd.underlying27
  obtain ⟨g, hg⟩ : ∃ g, g = w.heap.size := ⟨_, rfl⟩
  obtain ⟨wb, hwb⟩ : ∃ wb, wb = w.alloc (.cells (cS zS) 27) := ⟨_, rfl⟩
  have h0 : wb.heap[g]? = some (.cells (cS zS) 27 (0, 0)) := by rw [hwb]; exact h_new hg
  have hb : Below w.heap.size w wb := by rw [hwb]; exact below_alloc (Below.refl _ _) _
  have hs : wb.heap.size = g + 1 := by rw [hwb, size_alloc, hg]
  have HB := Aside0.mk (⟨h0, hb, hs, Kd.C_below hr hb, hW.below hb⟩ : _ ∧ _ ∧ _ ∧ _ ∧ _)
  have HWB := Aside0.mk ((zw w).symm.trans hwb.symm)
  clear h0 hb hs hwb hr
  have HG := Aside0.mk hg
  clear hg
  have HL := Aside0.mk hl
  clear hl
  obtain ⟨T, hT⟩ : ∃ T, T = hashOf (itemsOf l) 0 := ⟨_, rfl⟩
  have HT := Aside0.mk hT
  rw [← hT]
  clear hT
  have HLn := Aside0.mk (itemsOf_len l)
  obtain ⟨L, hL⟩ : ∃ L, L = itemsOf l := ⟨_, rfl⟩
  rw [← hL] at HT HLn
  have HE := Aside0.mk hL
  clear hL
  go_enter Tryd.func12, Tryd.ntmps12
  go_wp2_with (first
    | (go_at_call 39; rw [HWB.out, ← HG.out]; (refine (itemsm_calls l A c wb HB.out.2.2.2.2 HB.out.2.2.2.1 hc HL.out.small).mono ?_); rw [← HE.out]; rintro e w1 ⟨v1, rfl, hv1, hb1⟩; obtain ⟨A1, c1, rfl, hc1, hr1⟩ := Kd.R_reads hv1; have H1 := Aside0.mk (⟨hr1, hb1, HB.out.2.2.2.2.below hb1⟩ : _ ∧ _ ∧ _); clear hr1 hb1 hv1)
    | (go_at_call 38; (refine (hashm_calls L 0 (by omega) A1 c1 w1 (by rw [HE.out]; exact HL.out.items) H1.out.2.2 H1.out.1 hc1).mono ?_); rw [← HT.out]; rintro e w2 ⟨rfl, hb2⟩; have H2 := Aside0.mk (below_tr H1.out.2.1 hb2 H1.out.2.1.size); clear hb2)
    | ((with_reducible refine gate_store (t := 27) rfl ?_); go_loud (refine wpList_store_row rfl 27 (.tmp 2) (.tmp 5) rfl g (cS T) rfl rfl 27 (cS zS) ((H2.out.block _ (by have := HB.out.2.2.1; omega)).trans HB.out.1) ?g3 ?g4 (encI_one _) ?_); (case g3 => rw [cS_size]; kernel_rfl); (case g4 => rw [cS_size, cS_size])))
  refine bodyPost_ret (v := .agg (cS T)) ?_ rfl ⟨rfl, below_setRow (HB.out.2.1.trans (H2.out.mono (by have := HB.out.2.2.1; have := HG.out; omega))) (by have := HG.out; omega)⟩
  exact results_cell_row rfl _ _ g 27 _ (0, 0) _ rfl (setRow_heap _ _ _ _ _ _ ((H2.out.block g (by have := HB.out.2.2.1; omega)).trans HB.out.1)) hu27 rfl (by rw [cS_size]; kernel_rfl)
end Go.Proofs.YtanabbjakacgbaaDoor.Sp
namespace Go.Proofs.YtanabbjakacgbaaDoor.Sp
open Go.RowKit Go.Proofs.YtanabbjakacgbaaDoorW.PrintWords Go.Proofs.YtanabbjakacgbaaDoorW.PrintLast Go.Proofs.YtanabbjakacgbaaDoorW.PrintMore Go.Proofs.YtanabbjakacgbaaDoor.PM
set_option linter.unusedVariables false
set_option linter.unusedSimpArgs false
set_option maxRecDepth 100000
structure Pf where
  p : List Sm
  e : Int
  l : Lf
deriving DecidableEq
def cP (v : Value) (e : Int) (l : Lf) : Array Value := #[v, .int .i64 e] ++ cL l
theorem cP_size (v : Value) (e : Int) (l : Lf) : (cP v e l).size = 35 := by rw [cP, Array.size_append, cL_size]; rfl
theorem cP_one {v : Value} (hv : v.oneCell' = true) (e : Int) (l : Lf) : ∀ u ∈ (cP v e l).toList, u.oneCell' = true := by
  intro u hu
  rw [cP, Array.toList_append] at hu
  rcases List.mem_append.1 hu with hu | hu
  · simp at hu
    rcases hu with rfl | rfl
    · exact hv
    · rfl
  · exact cL_one _ u hu
theorem infoP : (Tryd.prog.info? 36).map (fun i => (i.zero, i.size, i.bytes)) = some (some (.agg (cP (.slice none 0 0) 0 zL)), 35, 80) := by kernel_rfl
section
variable {w : World} {g : Nat} {v u : Value} {e : Int} {l : Lf} {t : Nat}
theorem cell_P0 {fr : Nat × Nat} (hg : w.heap[g]? = some (.cells (cP v e l) t fr)) : w.cell? ⟨g, 0, none⟩ = some v := (cell_of_row w g 0 _ t fr hg).trans (by rw [cP, Array.getElem?_append_left (by simp)]; rfl)
theorem cell_P1 {fr : Nat × Nat} (hg : w.heap[g]? = some (.cells (cP v e l) t fr)) : w.cell? ⟨g, 1, none⟩ = some (.int .i64 e) := (cell_of_row w g 1 _ t fr hg).trans (by rw [cP, Array.getElem?_append_left (by simp)]; rfl)
theorem cell_P2 {fr : Nat × Nat} (hg : w.heap[g]? = some (.cells (cP v e l) t fr)) : w.cell? ⟨g, 2, none⟩ = some (.string l.k) := (cell_of_row w g 2 _ t fr hg).trans (by
  rw [cP, Array.getElem?_append_right (by simp), cL, Array.getElem?_append_left (by simp)]
  rfl)
theorem cells_P2 {fr : Nat × Nat} (hg : w.heap[g]? = some (.cells (cP v e l) t fr)) : ∀ j u, (cL l).toList[j]? = some u → w.cell? ((⟨g, 2, none⟩ : Addr).add j) = some u := by
  intro j u hj
  have h := row_cells hg (2 + j) u (by rw [cP, Array.toList_append, List.getElem?_append_right (by simp)]; simpa using hj)
  rw [Addr.add_lit] at h ⊢
  simpa using h
theorem set_P0 (hg : w.heap[g]? = some (.cells (cP v e l) t (0, 0))) : (w.setCell ⟨g, 0, none⟩ u).heap[g]? = some (.cells (cP u e l) t (0, 0)) := by
  rw [heap_setCell_same w g 0 _ t _ hg, cP, cP, Array.setIfInBounds_append_left (by simp)]
  rfl
theorem set_P1 (e' : Int) (hg : w.heap[g]? = some (.cells (cP v e l) t (0, 0))) : (w.setCell ⟨g, 1, none⟩ (.int .i64 e')).heap[g]? = some (.cells (cP v e' l) t (0, 0)) := by
  rw [heap_setCell_same w g 1 _ t _ hg, cP, cP, Array.setIfInBounds_append_left (by simp)]
  rfl
theorem froz_P (j : Nat) (hg : w.heap[g]? = some (.cells (cP v e l) t (0, 0))) : w.frozen? ⟨g, j, none⟩ = false := frozen_of_row w g j _ t hg
theorem ld_P (hg : w.heap[g]? = some (.cells (cP v e l) t (0, 0))) (m : Nat) : (loadVar 36 ⟨g, 0, none⟩).run Tryd.prog (w.drewN m) = .ok (.agg (cP v e l)) (w.drewN m) :=
  load_row hg 36 Tryd.underlying36 rfl (by rw [cP_size]; kernel_rfl) m
end
def wayF : Nat → List It → Sm → Nat → List Sm × List It
  | 0, l, s, d => ([], l)
  | k + 1, l, s, d => if endsOf l d = true then ([], l) else (hashOf (halfOf l d (1 - bitI s d)) (d + 1) :: (wayF k (halfOf l d (bitI s d)) s (d + 1)).1, (wayF k (halfOf l d (bitI s d)) s (d + 1)).2)
def wayOf (l : List It) (s : Sm) : List Sm × List It := wayF 256 l s 0
theorem wayF_end {l : List It} {d : Nat} (s : Sm) (h : endsOf l d = true) (k : Nat) : wayF k l s d = ([], l) := by
  cases k with
  | zero => rfl
  | succ k => rw [wayF, if_pos h]
theorem wayF_go {l : List It} {d : Nat} (s : Sm) (h : endsOf l d = false) : wayF (256 - d) l s d = (hashOf (halfOf l d (1 - bitI s d)) (d + 1) :: (wayF (256 - (d + 1)) (halfOf l d (bitI s d)) s (d + 1)).1, (wayF (256 - (d + 1)) (halfOf l d (bitI s d)) s (d + 1)).2) := by
  have hd := (ends_lt h).1
  rw [show 256 - d = (256 - (d + 1)) + 1 by omega, wayF, if_neg (by rw [h]; simp)]
def proveOf (l : List Lf) (k : ByteArray) : Pf :=
  if (wayOf (itemsOf l) (hk k)).2.length = 0 then ⟨(wayOf (itemsOf l) (hk k)).1, 0, zL⟩
  else ⟨(wayOf (itemsOf l) (hk k)).1, if ((wayOf (itemsOf l) (hk k)).2.getD 0 zI).x.k = k then 1 else 2, ((wayOf (itemsOf l) (hk k)).2.getD 0 zI).x⟩
end Go.Proofs.YtanabbjakacgbaaDoor.Sp
namespace Go.Proofs.YtanabbjakacgbaaDoor.Sp
open Go.RowKit Go.Proofs.YtanabbjakacgbaaDoorW.PrintWords Go.Proofs.YtanabbjakacgbaaDoorW.PrintLast Go.Proofs.YtanabbjakacgbaaDoorW.PrintMore Go.Proofs.YtanabbjakacgbaaDoor.PM
set_option linter.unusedVariables false
set_option linter.unusedSimpArgs false
set_option maxRecDepth 100000
section
variable {P : Program} {ops : Array Oper} {Q : Exit → Act → World → Prop} {oi : Oper} {a : Act} {w : World} {K : Act → World → Prop}
theorem st_any (hw : Region.wanted oi (yielded ops a.tmps) = true) (hN : oi.dst = none) {ty : TypeId} {x y : Operand} (ho : oi.op = .store ty x y) {ad : Addr} {v : Value} (hx : a.eval x = .pointer (some ad)) (hy : a.eval y = v) {w1 : World}
    (hrun : (storeVar ty ad v).run P w = .ok () w1) (h : K a w1) : if Region.wanted oi (yielded ops a.tmps) = true then Oper.wp P oi a w K Q else K (a.put none undef) w := by
  refine skip_ hw hN ?_ h
  unfold execOp
  simp only [ho, hx, hy, Instr.storeAt, Instr.sureAddr, Sem.run_bind, Sem.run_pure, Result.andThen_ok, hrun]
theorem run_storeVar_cell {ty : TypeId} {ad : Addr} {v old : Value} (hs : ad.spot = none) (hv : v.cells = #[v]) (h1 : v.oneCell' = true) (hi : (P.info? ty).map (·.size) = some 1) (hc : w.cell? ad = some old) (hf : w.frozen? ad = false) :
    (storeVar ty ad v).run P w = .ok () (w.setCell ad v) := by
  cases hq : P.info? ty with
  | none => simp [hq] at hi
  | some i =>
    have hs : i.size = 1 := by simpa [hq] using hi
    have hst := run_store P w ad v .plain h1
    rw [hc] at hst
    simp only [hf] at hst
    simp [storeVar, sizeOf, typeInfo, hq, hv, hs, storeCells, Addr.add_zero', Sem.run_bind, hst]
theorem st_cell (hw : Region.wanted oi (yielded ops a.tmps) = true) (hN : oi.dst = none) (ty : TypeId) (x y : Operand) (ho : oi.op = .store ty x y) (ad : Addr) (v old : Value) (hx : a.eval x = .pointer (some ad)) (hy : a.eval y = v) (hs : ad.spot = none) (hv : v.cells = #[v]) (h1 : v.oneCell' = true) (hi : (P.info? ty).map (·.size) = some 1) (hc : w.cell? ad = some old) (hf : w.frozen? ad = false)
    (h : K a (w.setCell ad v)) : if Region.wanted oi (yielded ops a.tmps) = true then Oper.wp P oi a w K Q else K (a.put none undef) w :=
  st_any hw hN ho hx hy (run_storeVar_cell hs hv h1 hi hc hf) h
theorem st_row (hw : Region.wanted oi (yielded ops a.tmps) = true) (hN : oi.dst = none) (ty : TypeId) (x y : Operand) (ho : oi.op = .store ty x y) (g : Nat) (cells : Array Value) (hx : a.eval x = .pointer (some ⟨g, 0, none⟩)) (hy : a.eval y = .agg cells)
    (t : TypeId) (old : Array Value) (hg : w.heap[g]? = some (.cells old t (0, 0))) (hi : (P.info? ty).map (·.size) = some cells.size) (hold : old.size = cells.size) (h1 : cells.all (·.oneCell') = true)
    (h : K a (w.setRow g cells)) : if Region.wanted oi (yielded ops a.tmps) = true then Oper.wp P oi a w K Q else K (a.put none undef) w :=
  st_any hw hN ho hx hy (run_storeVar_row w g t ty old cells hg hi hold h1) h
theorem st_mid (hw : Region.wanted oi (yielded ops a.tmps) = true) (hN : oi.dst = none) (ty : TypeId) (x y : Operand) (ho : oi.op = .store ty x y) (b o : Nat) (cells : Array Value) (hx : a.eval x = .pointer (some ⟨b, o, none⟩)) (hy : a.eval y = .agg cells)
    (ht : w.there b o cells.size) (hi : (P.info? ty).map (·.size) = some cells.size) (h1 : cells.all (·.oneCell') = true)
    (h : K a (w.setCells b o cells.toList)) : if Region.wanted oi (yielded ops a.tmps) = true then Oper.wp P oi a w K Q else K (a.put none undef) w :=
  st_any hw hN ho hx hy (run_storeVar_mid w b o ty cells ht hi h1) h
end
theorem heap_setCells {g t : Nat} : ∀ (vs : List Value) (o : Nat) (w : World) (cs : Array Value), w.heap[g]? = some (.cells cs t (0, 0)) → o + vs.length ≤ cs.size →
    ∃ cs' : Array Value, (w.setCells g o vs).heap[g]? = some (.cells cs' t (0, 0)) ∧ cs'.size = cs.size ∧ ∀ j, cs'[j]? = if o ≤ j ∧ j < o + vs.length then vs[j - o]? else cs[j]?
  | [], o, w, cs, h, _ => ⟨cs, h, rfl, fun j => by rw [if_neg (fun h => by simp at h; omega)]⟩
  | v :: r, o, w, cs, h, hl => by
    simp only [List.length_cons] at hl
    obtain ⟨cs', h1, h2, h3⟩ := heap_setCells r (o + 1) (w.setCell ⟨g, o, none⟩ v) _ (heap_setCell_same w g o cs t v h) (by simp; omega)
    refine ⟨cs', h1, by rw [h2]; simp, fun j => ?_⟩
    rw [h3 j]
    simp only [List.length_cons]
    by_cases hj : j = o
    · subst hj
      rw [if_neg (by omega), if_pos (by omega), Nat.sub_self, Array.getElem?_setIfInBounds_self_of_lt (by omega)]
      rfl
    · rw [Array.getElem?_setIfInBounds_ne (by omega)]
      by_cases hc : o + 1 ≤ j ∧ j < o + 1 + r.length
      · rw [if_pos hc, if_pos (by omega), show j - o = (j - (o + 1)) + 1 by omega]
        rfl
      · rw [if_neg hc, if_neg (by omega)]
theorem set_P2 {w : World} {g t : Nat} {v : Value} {e : Int} {l l' : Lf} (h : w.heap[g]? = some (.cells (cP v e l) t (0, 0))) : (w.setCells g 2 (cL l').toList).heap[g]? = some (.cells (cP v e l') t (0, 0)) := by
  obtain ⟨cs', h1, h2, h3⟩ := heap_setCells (cL l').toList 2 w _ h (by rw [Array.length_toList, cL_size, cP_size]; omega)
  rw [h1]
  have e2 : cs' = cP v e l' := by
   apply Array.ext_getElem?
   intro j
   rw [h3 j, Array.length_toList, cL_size]
   by_cases hj : j < 2
   · rw [if_neg (by omega), cP, cP, Array.getElem?_append_left (by simp; omega), Array.getElem?_append_left (by simp; omega)]
   · by_cases hk : j < 35
     · rw [if_pos (by omega), cP, Array.getElem?_append_right (by simp; omega), Array.getElem?_toList]
       rfl
     · rw [if_neg (by omega), Array.getElem?_eq_none (by rw [cP_size]; omega), Array.getElem?_eq_none (by rw [cP_size]; omega)]
  rw [e2]
theorem there_P2 {w : World} {g t : Nat} {v : Value} {e : Int} {l : Lf} (h : w.heap[g]? = some (.cells (cP v e l) t (0, 0))) : w.there g 2 33 := fun j hj => by
  refine ⟨?_, frozen_of_row w g _ _ t h⟩
  rw [cell_of_row w g _ _ t _ h, Array.getElem?_eq_getElem (by rw [cP_size]; omega)]
  rfl
theorem below_setCells {b g : Nat} : ∀ (vs : List Value) (o : Nat) {w0 w : World}, Below b w0 w → b ≤ g → Below b w0 (w.setCells g o vs)
  | [], _, _, _, h, _ => h
  | v :: r, o, w0, w, h, hg => below_setCells r (o + 1) (h.setCell (p := ⟨g, o, none⟩) hg v) hg
theorem heap_setCells_ne {g k : Nat} (hk : k ≠ g) : ∀ (vs : List Value) (o : Nat) (w : World), (w.setCells g o vs).heap[k]? = w.heap[k]?
  | [], _, _ => rfl
  | v :: r, o, w => by rw [World.setCells, heap_setCells_ne hk r]; exact Below.heap_setCell w ⟨g, o, none⟩ v k hk
theorem heap_setCell_ne {w : World} {g o k : Nat} {v : Value} (hk : k ≠ g) : (w.setCell ⟨g, o, none⟩ v).heap[k]? = w.heap[k]? := Below.heap_setCell w ⟨g, o, none⟩ v k hk
end Go.Proofs.YtanabbjakacgbaaDoor.Sp
namespace Go.Proofs.YtanabbjakacgbaaDoor.Sp
open Go.RowKit Go.Proofs.YtanabbjakacgbaaDoorW.PrintWords Go.Proofs.YtanabbjakacgbaaDoorW.PrintLast Go.Proofs.YtanabbjakacgbaaDoorW.PrintMore Go.Proofs.YtanabbjakacgbaaDoor.PM
set_option linter.unusedVariables false
set_option linter.unusedSimpArgs false
set_option maxRecDepth 100000
theorem at_world {P : Program} {ops : Array Oper} {rest : List Oper} {a : Act} {w w' : World} {Q : Exit → Act → World → Prop} (h : w = w') (H : wpList P ops Q rest a w') : wpList P ops Q rest a w := by rw [h]; exact H
theorem R_setRow {α : Type} {d : Kd α} {e : Nat} {w : World} {base g : Nat} {v : Value} {xs : List α} (h : d.R e w base (fun _ => True) v xs) (hg : g < base) (cs : Array Value) : d.R e (w.setRow g cs) base (fun _ => True) v xs :=
  Kd.R_mono (Kd.R_step (Kd.R_bound h) (fun k hk _ => setRow_other _ _ _ _ (by have := hk.2.1; omega))) (fun _ _ => trivial)
theorem R_setCell {α : Type} {d : Kd α} {e : Nat} {w : World} {base g j : Nat} {v : Value} {xs : List α} (h : d.R e w base (fun _ => True) v xs) (hg : g < base) (u : Value) : d.R e (w.setCell ⟨g, j, none⟩ u) base (fun _ => True) v xs :=
  Kd.R_mono (Kd.R_step (Kd.R_bound h) (fun k hk _ => Below.heap_setCell w ⟨g, j, none⟩ u k (by have := hk.2.1; show k ≠ g; omega))) (fun _ _ => trivial)
theorem R_C {α : Type} {d : Kd α} {e : Nat} {w : World} {base : Nat} {ok : Nat → Prop} {A : Option Addr} {n c : Nat} {xs : List α} (h : d.R e w base ok (.slice A n c) xs) : n = xs.length ∧ xs.length ≤ c ∧ d.C w A xs.length xs := by
  obtain ⟨A', c', e', hc, hC⟩ := Kd.R_reads h
  injection e' with e1 e2 e3
  subst e1 e3
  exact ⟨e2, hc, hC⟩
theorem R_off {α : Type} {d : Kd α} {e : Nat} {w : World} {base : Nat} {A : Option Addr} {n c : Nat} {xs : List α} (h : d.R e w base (fun _ => True) (.slice A n c) xs) {g t : Nat} {cells : Array Value} (hb : w.heap[g]? = some (.cells cells t (0, 0))) (ht : e ≠ t) (ad : Addr) (hA : A = some ad) (hp : 0 < n) : ad.block ≠ g := by
  intro e1
  subst hA
  refine Kd.R_ne h hb ht ?_
  rw [Value.ownBlock, e1]
section
variable {ops : Array Oper} {rest : List Oper} {o : Oper} {a : Act} {Q : Exit → Act → World → Prop} {w wa W : World}
theorem app_S2 (hg : o.guard = none) (s x : Operand) (ho : o.op = .call { callee := .builtin .append, args := #[s, x], argTypes := #[34, 34] }) (v : Value) (xs : List Sm) (p : Sm) (hs : a.eval s = v) (hx : a.eval x = .slice (some ⟨W.heap.size, 0, none⟩) 1 1) (B : Nat) (HO : kS.R 27 W B (fun _ => True) v xs) (HB : Below B wa W) (hB : B ≤ W.heap.size) (hl : xs.length ≤ 1000000)
    (h : ∀ v1 w1, kS.R 27 w1 B (fun _ => True) v1 (xs ++ [p]) → Below B wa w1 → W.grownBy w1 v.ownBlock → wpList Tryd.prog ops Q rest (a.put o.dst v1) w1) : wpList Tryd.prog ops Q (o :: rest) a (W.alloc (.cells (cS p) 27)) := by
  have h9 := Kd.R_append kS (P := Tryd.prog) (w0 := wa) (W := W) (ops := ops) (rest := rest) (o := o) (a := a) (Q := Q) B hg s x 34 27 (.agg (cS zS)) 32 ho Tryd.underlying34 infoS (cS_size _) (by decide) (by decide) v xs p (cS p).toList (fun _ => True) (fun _ => False) hs hx rfl (fun _ hk => hk.elim) (fun _ _ => trivial) HO HB hB (by omega) (fun v1 w1 h1 h2 h3 _ => h v1 w1 h1 h2 h3)
  rwa [Array.toArray_toList] at h9
end
theorem bs1S_run {o : Oper} {a : Act} (x : Operand) (ho : o.op = .buildSlice 34 1 #[(0, x)]) (p : Sm) (hx : a.eval x = .agg (cS p)) (w : World) : (execOp a.eval o).run Tryd.prog w = .ok (.value (.slice (some ⟨w.heap.size, 0, none⟩) 1 1)) (w.alloc (.cells (cS p) 27)) := by
  obtain ⟨ie, hi, hzz⟩ := Option.map_eq_some_iff.1 infoS
  simp only [Prod.mk.injEq] at hzz
  unfold execOp
  simp only [ho, Sem.run_bind]
  have e : (Array.map (fun x : Nat × Operand => (x.1, a.eval x.2)) #[(0, x)]) = #[(0, .agg (cS p))] := by simp [hx]
  have hf := run_buildSlice (P := Tryd.prog) w 34 27 1 #[(0, .agg (cS p))] (cS p) ie (.agg (cS zS)) Tryd.underlying34 hi hzz.1 (by rw [hzz.2.1]; omega) (by rw [hzz.2.1]; omega) (by rw [hzz.2.1]; exact fill_one 0 (.agg (cS p)) _ _ (by simp [Value.cells, cS_size]) (by simp [Value.cells, cS_size]))
  rw [e, hf]
  rfl
end Go.Proofs.YtanabbjakacgbaaDoor.Sp
namespace Go.Proofs.YtanabbjakacgbaaDoor.Sp
open Go.RowKit Go.Proofs.YtanabbjakacgbaaDoorW.PrintWords Go.Proofs.YtanabbjakacgbaaDoorW.PrintLast Go.Proofs.YtanabbjakacgbaaDoorW.PrintMore Go.Proofs.YtanabbjakacgbaaDoor.PM
set_option linter.unusedVariables false
set_option linter.unusedSimpArgs false
section
variable {P : Program} {ops : Array Oper} {Q : Exit → Act → World → Prop}
theorem wpIn_of_wp_oper (l n : Nat) {o : Oper} {a : Act} {w : World} {K : Act → World → Prop} (hd : ∀ c, o.op ≠ .defer c) (h : o.wp P a w K Q) : o.wpIn (Fence.wide.inRound l) n P a w K Q := by
  refine ⟨fun _ _ => trivial, ?_⟩
  rw [Oper.semAt_plain _ _ _ hd]
  unfold Oper.wp at h
  generalize (execOp a.eval o).run P w = r at h
  unfold Oper.upon at h
  unfold Oper.uponIn
  split at h
  · exact h
  · exact h
  · exact h
  · exact ⟨(fun h => by cases h), CallsIn.inRound _ (callsIn_wide.2 h)⟩
  · exact ⟨(fun h => by cases h), fun c cs _ => let ⟨v, w', r, s⟩ := h c cs; ⟨v, w', r, stepsIn_wide.2 s⟩⟩
  · exact h
  · exact h.elim
theorem wpOpIn_of_wpOp (l n : Nat) (hq : ¬ LetsOut Q) (hd : ∀ (i : Nat) o, ops[i]? = some o → ∀ c, o.op ≠ .defer c) {i : Nat} {K K' : Act → World → Prop} {a : Act} {w : World} (hK : ∀ a w, K a w → K' a w) (h : wpOp P ops Q i K a w) : wpOpIn (Fence.wide.inRound l) n P ops Q i K' a w := by
  unfold wpOp at h
  unfold wpOpIn
  cases ho : ops[i]? with
  | none => rw [ho] at h; exact hK _ _ h
  | some o =>
    rw [ho] at h
    simp only at h ⊢
    by_cases hw : Region.wanted o (yielded ops a.tmps) = true
    · rw [if_pos hw] at h ⊢
      rcases h with h | h
      · exact Oper.wpIn_mono hK (wpIn_of_wp_oper l n (hd i o ho) h)
      · exact absurd h.2 hq
    · rw [if_neg hw] at h ⊢
      exact ⟨fun _ _ => trivial, hK _ _ h⟩
theorem wpAnyIn_of_wpAny (l n : Nat) (hq : ¬ LetsOut Q) (hd : ∀ (i : Nat) o, ops[i]? = some o → ∀ c, o.op ≠ .defer c) {md : Region.Mode} : ∀ (fuel : Nat) (listed : Array Bool) (a : Act) (w : World), wpAny P md ops Q fuel listed a w → wpAnyIn (Fence.wide.inRound l) n P md ops Q fuel listed a w
  | 0, _, _, _, h => h
  | fuel + 1, _, _, _, h => ⟨h.1, fun i hi => wpOpIn_of_wpOp l n hq hd (fun a w h => wpAnyIn_of_wpAny l n hq hd fuel _ a w h) (h.2 i hi)⟩
def noDefer (ops : Array Oper) : Bool := ops.all fun o => match o.op with | .defer _ => false | _ => true
theorem noDefer_spec (h : noDefer ops = true) (i : Nat) (o : Oper) (ho : ops[i]? = some o) : ∀ c, o.op ≠ .defer c := by
  intro c hc
  obtain ⟨hi, rfl⟩ := Array.getElem?_eq_some_iff.1 ho
  have := (Array.all_eq_true.1 h) i hi
  rw [hc] at this
  cases this
theorem startR_ {S : World → Prop} {ds : List Nat} {id n l m : Nat} {a : Act} {w : World} (ls : Array Bool) (hm : P.follows .mixedOrders = true) (hdf : noDefer ops = true) (hq : ¬ LetsOut Q) (hn : ops.size = n) (hl : Array.replicate n false = ls) (hS : S w.drew)
    (h : S w.drew → wpAnyLast P .any ops Q S ds n ls a w.drew) : (Code.region id ops true).wpIn (Fence.wide.inRound l) m P Q a w := by
  subst hn
  subst hl
  exact wpIn_region_any hm (wpAnyIn_of_wpAny l m hq (noDefer_spec hdf) _ _ _ _ (wpAny_of_last _ _ _ _ (h hS)))
end
theorem wpListIn_loadv {F : Fence} {n : Nat} {P : Program} {ops : Array Oper} {Q : Exit → Act → World → Prop} {rest : List Oper} {o : Oper} {a : Act} {w : World} (hg : o.guard = none) (ty : TypeId) (x : Operand) (ho : o.op = .load ty x) (ad : Addr) (hx : a.eval x = .pointer (some ad))
    (v : Value) (hl : (loadVar ty ad).run P w = .ok v w) (h : wpListIn F n P ops Q rest (a.put o.dst v) w) : wpListIn F n P ops Q (o :: rest) a w := by
  refine wpListIn_plain hg fun K hK => ?_
  unfold Oper.wpIn
  refine ⟨by simp [Oper.about, ho], ?_⟩
  rw [Oper.semAt_plain F _ _ (by rw [ho]; intro c hc'; cases hc'), show (execOp a.eval o).run P w = .ok (.value v) w from yield_load ty x ho ad hx hl]
  exact hK _ _ h
end Go.Proofs.YtanabbjakacgbaaDoor.Sp
namespace Go.Proofs.YtanabbjakacgbaaDoor.Sp
open Go.RowKit Go.Shelf Go.Proofs.YtanabbjakacgbaaDoorW.PrintWords Go.Proofs.YtanabbjakacgbaaDoorW.PrintLast Go.Proofs.YtanabbjakacgbaaDoorW.PrintMore Go.Proofs.YtanabbjakacgbaaDoor.PM Go.Proofs.YtanabbjakacgbaaDoor.Rng
set_option linter.unusedVariables false
set_option linter.unusedSimpArgs false
set_option maxRecDepth 100000
attribute [local go_sem] Oper.semAt_some
def othersF : Nat → List It → Sm → Nat → List (List It)
  | 0, _, _, _ => []
  | k + 1, l, s, d => if endsOf l d = true then [] else halfOf l d (1 - bitI s d) :: othersF k (halfOf l d (bitI s d)) s (d + 1)
theorem othersF_end {l : List It} {d : Nat} (s : Sm) (h : endsOf l d = true) (k : Nat) : othersF k l s d = [] := by
  cases k with
  | zero => rfl
  | succ k => rw [othersF, if_pos h]
theorem othersF_go {l : List It} {d : Nat} (s : Sm) (h : endsOf l d = false) : othersF (256 - d) l s d = halfOf l d (1 - bitI s d) :: othersF (256 - (d + 1)) (halfOf l d (bitI s d)) s (d + 1) := by
  have hd := (ends_lt h).1
  rw [show 256 - d = (256 - (d + 1)) + 1 by omega, othersF, if_neg (by rw [h]; simp)]
theorem wayF_others : ∀ (k : Nat) (l : List It) (s : Sm) (d : Nat), (wayF k l s d).1.length = (othersF k l s d).length ∧ ∀ i x, (othersF k l s d)[i]? = some x → (wayF k l s d).1[i]? = some (hashOf x (d + i + 1))
  | 0, l, s, d => ⟨rfl, fun i x h => by simp [othersF] at h⟩
  | k + 1, l, s, d => by
    rw [wayF, othersF]
    by_cases h : endsOf l d = true
    · rw [if_pos h, if_pos h]
      exact ⟨rfl, fun i x h => by simp at h⟩
    · rw [if_neg h, if_neg h]
      have ih := wayF_others k (halfOf l d (bitI s d)) s (d + 1)
      refine ⟨by simp [ih.1], fun i x hx => ?_⟩
      cases i with
      | zero =>
        have : halfOf l d (1 - bitI s d) = x := by simpa using hx
        rw [← this]
        rfl
      | succ i =>
        have h2 := ih.2 i x (by simpa using hx)
        rw [show d + (i + 1) + 1 = d + 1 + i + 1 by omega]
        simpa using h2
theorem othersF_sm {k : Nat} : ∀ {l : List It} {s : Sm} {d : Nat}, SmI l → ∀ x ∈ othersF k l s d, SmI x := by
  induction k with
  | zero => intro l s d _ x hx; cases hx
  | succ k ih =>
    intro l s d hl x hx
    rw [othersF] at hx
    by_cases h : endsOf l d = true
    · rw [if_pos h] at hx; cases hx
    · rw [if_neg h] at hx
      rcases List.mem_cons.1 hx with rfl | hx
      · exact hl.half _ _
      · exact ih (hl.half _ _) x hx
theorem at_named {F : Fence} {n : Nat} {P : Program} {o : Oper} {a : Act} {next : Act → World → Prop} {Q : Exit → Act → World → Prop} {s : Sem Next} {W : World} (h : ∀ W1, W1 = W → o.uponIn F n P a next Q (s.run P W1)) : o.uponIn F n P a next Q (s.run P W) := h W rfl
theorem R_kept {α : Type} {d : Kd α} {e : Nat} {w w1 : World} {base : Nat} {v : Value} {xs : List α} (h : d.R e w base (fun _ => True) v xs) (hE : d.E = []) (hk : ∀ (k : Nat) (o : Obj), w.heap[k]? = some o → (∃ cells fr, o = .cells cells e fr) → w1.heap[k]? = some o) : d.R e w1 base (fun _ => True) v xs :=
  Kd.R_mono (Kd.R_step (Kd.R_bound h) (fun k hk' _ => by
    obtain ⟨_, _, _, q, hq, cells, hc⟩ := hk'
    rw [hE] at hq
    obtain rfl := List.mem_singleton.1 hq
    rw [hk k _ hc ⟨_, _, rfl⟩, hc])) (fun _ _ => trivial)
def Ew (b : Nat) (i : Nat) (x : List It) (vs : Array Value) (W : World) : Prop := ∃ v, vs = #[.int .i64 (i : Int), v] ∧ kI.R 79 W b (fun _ => True) v x
def Sw (gl gs ge gend : Nat) (k : Nat) (o : Obj) : Prop := o.isCells = true ∧ (k = gl ∨ k = gs ∨ k = ge ∨ k = gend ∨ ∃ cells fr, o = .cells cells 79 fr)
def Tw (gl gend : Nat) (k : Nat) : Prop := k = gl ∨ k = gend
set_option maxHeartbeats 1000000 in
theorem way_gives (n : Nat) (hn : 1 ≤ n) (gl gs ge gend : Nat) (h1 : gl ≠ gs) (h2 : gl ≠ ge) (h3 : gl ≠ gend) (h4 : gend ≠ gs) (h5 : gend ≠ ge) (L : List It) (s : Sm) (A0 : Option Addr) (c0 : Nat) (w : World) (hL : SmI L)
    (hxl : Boxed w gl 70 (.slice A0 L.length c0)) (hr : kI.R 79 w 0 (fun _ => True) (.slice A0 L.length c0) L) (hxs : w.heap[gs]? = some (.cells (cS s) 27 (0, 0))) (hxe : Boxed w ge 77 (.pointer (some ⟨gend, 0, none⟩))) (v0 : Value) (hxd : Boxed w gend 70 v0) :
    Gives2 Fence.wide n Tryd.prog 69 #[.pointer (some ⟨gl, 0, none⟩), .pointer (some ⟨gs, 0, none⟩),   .pointer (some ⟨ge, 0, none⟩)] (Ew w.heap.size) (Sw gl gs ge gend) (Tw gl gend) (othersF 256 L s 0) (fun W => ∃ v, Boxed W gend 70 v ∧ kI.R 79 W 0 (fun _ => True) v (wayOf L s).2) w := by
  intro l J W hS hsz hJ hY h0
  have hlW : Boxed W gl 70 (.slice A0 L.length c0) := hS gl _ hxl ⟨rfl, .inl rfl⟩
  have hsW := hS gs _ hxs ⟨rfl, .inr (.inl rfl)⟩
  have heW : Boxed W ge 77 (.pointer (some ⟨gend, 0, none⟩)) := hS ge _ hxe ⟨rfl, .inr (.inr (.inl rfl))⟩
  have hdW : Boxed W gend 70 v0 := hS gend _ hxd ⟨rfl, .inr (.inr (.inr (.inl rfl)))⟩
  have hrW : kI.R 79 W 0 (fun _ => True) (.slice A0 L.length c0) L := R_kept hr rfl (fun k o hk hc => hS k o hk (by obtain ⟨cells, fr, rfl⟩ := hc; exact ⟨rfl, .inr (.inr (.inr (.inr ⟨_, _, rfl⟩)))⟩))
  have HIN := Aside0.mk (⟨hlW, hsW, heW, ⟨v0, hdW⟩, hrW, hL⟩ : _ ∧ _ ∧ _ ∧ (∃ v0, Boxed W gend 70 v0) ∧ _ ∧ _)
  have HNE := Aside0.mk (⟨h1, h2, h3, h4, h5⟩ : _ ∧ _ ∧ _ ∧ _ ∧ _)
  have HJ := Aside0.mk hJ
  have HY := Aside0.mk hY
  have HSZ := Aside0.mk hsz
  clear hlW hsW heW hdW hrW hxl hr hxs hxe hxd hS hL h1 h2 h3 h4 h5 hJ hY hsz
  obtain ⟨O, hO⟩ : ∃ O, O = othersF 256 L s 0 := ⟨_, rfl⟩
  obtain ⟨E, hE⟩ : ∃ E, E = (wayOf L s).2 := ⟨_, rfl⟩
  rw [← hO] at HY ⊢
  rw [← hE]
  have HO := Aside0.mk (And.intro hO hE)
  clear hO hE
  refine callsIn_of_wp Tryd.func69 rfl trivial ?_ rfl
  simp only [Tryd.ntmps69, List.size_toArray, List.length_cons, List.length_nil, Nat.reduceAdd, Nat.reduceSub, Array.replicate_succ, Array.replicate_zero, List.push_toArray, List.append_toArray, List.nil_append, List.cons_append]
  gi_wp2
  gi_loopw [5, 6] (fun i v6 wr => ∃ (d : Nat) (M : List It) (A3 : Option Addr) (c3 : Nat), i = .int .i64 (d : Int) ∧ d ≤ 256 ∧ Aside0 (SmI M ∧ d ≤ O.length ∧ O.drop d = othersF (256 - d) M s d ∧ E = (wayF (256 - d) M s d).2) ∧ Aside0 (w.heap.size ≤ wr.heap.size) ∧
    Aside0 (Boxed wr gl 70 (.slice A3 M.length c3) ∧ kI.R 79 wr 0 (fun _ => True) (.slice A3 M.length c3) M ∧ wr.heap[gs]? = some (.cells (cS s) 27 (0, 0)) ∧ Boxed wr ge 77 (.pointer (some ⟨gend, 0, none⟩)) ∧ (∃ v0, Boxed wr gend 70 v0) ∧ J d wr)) (fun i _ _ => 257 - (intOf i).toNat)
  case atStart => exact ⟨0, L, A0, c0, rfl, by omega, ⟨HIN.out.2.2.2.2.2, by omega, by rw [List.drop_zero]; exact HO.out.1, HO.out.2⟩, HSZ, ⟨HIN.out.1, HIN.out.2.2.2.2.1, HIN.out.2.1, HIN.out.2.2.1, HIN.out.2.2.2.1, h0⟩⟩
  case round =>
    clear HIN h0
    obtain ⟨d, M, A3, c3, rfl, hd, HM, HZ, HR⟩ := hrel
    have hcl := HR.out.1.cell
    by_cases hen : endsOf M d = true
    · gi_wp2
      refine ⟨trivial, (callsIn_wide.2 (endsm_calls M d hd A3 c3 wr)).mono ?_⟩
      rw [hen]
      rintro e w1 ⟨rfl, e1⟩
      rw [e1]
      clear e1
      obtain ⟨v9, hv9⟩ := HR.out.2.2.2.2.1
      have hce := HR.out.2.2.2.1.cell
      have hcd := hv9.cell
      have hfd := hv9.frozen
      gi_wp2
      go_end0
      have hOl := HM.out.2.2.1
      rw [othersF_end s hen] at hOl
      have hOd : O.length = d := by have h1 := List.drop_eq_nil_iff.1 hOl; have h2 := HM.out.2.1; omega
      have hEM : E = M := by rw [HM.out.2.2.2, wayF_end s hen]
      refine ⟨⟨_, rfl⟩, ?_, .slice A3 M.length c3, Boxed.set _ hv9, ?_⟩
      · rw [hOd]
        exact HJ.out d wr _ HR.out.2.2.2.2.2 (Turns.setCell (T := Tw gl gend) (p := ⟨gend, 0, none⟩) (.inr rfl) wr _)
      · rw [hEM]
        exact Kd.R_set HR.out.2.1 hv9 (by decide) 0 _
    · have hen0 : endsOf M d = false := by simpa using hen
      obtain ⟨hd1, _⟩ := ends_lt hen0
      have hwg := wayF_go s hen0
      have hog := othersF_go s hen0
      obtain ⟨β, hβ⟩ : ∃ β, bitI s d = β := ⟨_, rfl⟩
      obtain ⟨γ, hγ⟩ : ∃ γ, 1 - β = γ := ⟨_, rfl⟩
      have K5 : wrap64 (1 - β) = γ := by rw [← hγ]; rcases bitI_01 s d with h | h <;> rw [hβ] at h <;> rw [h] <;> unfold wrap64 <;> omega
      rw [hβ, hγ] at hwg hog
      obtain ⟨M0, hM0⟩ : ∃ x, halfOf M d γ = x := ⟨_, rfl⟩
      obtain ⟨M1, hM1⟩ : ∃ x, halfOf M d β = x := ⟨_, rfl⟩
      rw [hM0, hM1] at hwg
      rw [hM0, hM1] at hog
      have HS1 := Aside0.mk (show SmI M1 by rw [← hM1]; exact HM.out.1.half d β)
      have HH := Aside0.mk (⟨hM0, hM1, hβ, hwg, hog⟩ : _ ∧ _ ∧ _ ∧ _ ∧ _)
      have HOd : Aside0 (O[d]? = some M0 ∧ O.drop (d + 1) = othersF (256 - (d + 1)) M1 s (d + 1) ∧ d + 1 ≤ O.length) := ⟨by
        have h := HM.out.2.2.1
        rw [hog] at h
        have hl : d < O.length := by
          rcases Nat.lt_or_ge d O.length with h' | h'
          · exact h'
          · rw [List.drop_of_length_le h'] at h; cases h
        rw [List.drop_eq_getElem_cons hl] at h
        injection h with e1 e2
        exact ⟨by rw [List.getElem?_eq_getElem hl, e1], e2, hl⟩⟩
      clear hM0 hM1 hwg hβ hγ hog
      have hml := HM.out.1.1
      have hls : (loadVar 27 ⟨gs, 0, none⟩).run Tryd.prog wr = .ok (.agg (cS s)) wr := ld_S HR.out.2.2.1 0
      have HRC := Aside0.mk (R_C HR.out.2.1)
      gi_wp2
      refine ⟨trivial, (callsIn_wide.2 (endsm_calls M d hd A3 c3 wr)).mono ?_⟩
      rw [hen0]
      rintro e w1 ⟨rfl, e1⟩
      rw [e1]
      clear e1 w1
      gi_wp2_with (refine wpListIn_loadv rfl 27 _ rfl _ rfl _ hls ?_)
      refine ⟨trivial, (callsIn_wide.2 (bitm_calls s d hd1 wr)).mono ?_⟩
      rw [HH.out.2.2.1]
      rintro e w2 ⟨rfl, hb2⟩
      have H2 := Aside0.mk hb2
      have hcl2 := (show Boxed w2 gl 70 (.slice A3 M.length c3) from (hb2.block gl HR.out.1.lt).trans HR.out.1).cell
      clear hb2 hls hcl
      gi_wp2
      refine ⟨trivial, (callsIn_wide.2 (halfm_calls M d hd1 γ A3 c3 w2 (Kd.C_below HRC.out.2.2 H2.out) HRC.out.2.1 hml)).mono ?_⟩
      rw [HH.out.1]
      rintro e w3 ⟨v3, rfl, hv3, hb3⟩
      have hb9 := H2.out.trans (hb3.mono H2.out.size)
      have hz9 := hb9.size
      have H3 := Aside0.mk (⟨Kd.R_lower (base' := w.heap.size) hv3 (Nat.le_trans HZ.out H2.out.size), hb9⟩ : _ ∧ _)
      clear hb3 hv3 hcl2
      gi_wp2
      refine at_named (fun W1 hW1 => ?_)
      subst hW1
      have hJ3 : J d W1 := HJ.out d wr W1 HR.out.2.2.2.2.2 (Turns.of_below hb9 (Nat.le_refl _))
      obtain ⟨fn, tmps, assign, body, hy, hR⟩ := HY.out d M0 #[.int .i64 d, v3] W1 HOd.out.1 hJ3 ⟨v3, rfl, H3.out.1⟩
      rw [hy, Oper.uponIn_round]
      refine ⟨fun _ => hn, hR.mono ?_⟩
      rintro e W3 ⟨rfl, hJ4, hsz3, hS3⟩
      have HZ9 : Aside0 (wr.heap.size ≤ W3.heap.size) := ⟨Nat.le_trans hz9 hsz3⟩
      have hlt := HR.out.1.lt
      have hl3 : Boxed W3 gl 70 (.slice A3 M.length c3) := hS3 gl _ ((hb9.block gl HR.out.1.lt).trans HR.out.1) ⟨rfl, .inl rfl⟩
      have hs3 := hS3 gs _ ((hb9.block gs (Array.getElem?_eq_some_iff.1 HR.out.2.2.1).1).trans HR.out.2.2.1) ⟨rfl, .inr (.inl rfl)⟩
      have he3 : Boxed W3 ge 77 (.pointer (some ⟨gend, 0, none⟩)) := hS3 ge _ ((hb9.block ge HR.out.2.2.2.1.lt).trans HR.out.2.2.2.1) ⟨rfl, .inr (.inr (.inl rfl))⟩
      obtain ⟨v9, hv9⟩ := HR.out.2.2.2.2.1
      have hd3 : Boxed W3 gend 70 v9 := hS3 gend _ ((hb9.block gend hv9.lt).trans hv9) ⟨rfl, .inr (.inr (.inr (.inl rfl)))⟩
      have hM3 : kI.R 79 W3 0 (fun _ => True) (.slice A3 M.length c3) M := R_kept (Kd.R_below HR.out.2.1 hb9) rfl (fun k o hk hc => hS3 k o hk (by obtain ⟨cells, fr, rfl⟩ := hc; exact ⟨rfl, .inr (.inr (.inr (.inr ⟨_, _, rfl⟩)))⟩))
      have hcl3 := hl3.cell
      clear hS3 hy hR hv9 hb9 hJ3 H3 H2
      have H5 := Aside0.mk (⟨hl3, hs3, he3, hd3, hM3, hJ4⟩ : _ ∧ _ ∧ _ ∧ _ ∧ _ ∧ _)
      clear hl3 hs3 he3 hd3 hM3 hJ4
      gi_wp2
      refine ⟨trivial, (callsIn_wide.2 (halfm_calls M d hd1 β A3 c3 W3 (R_C H5.out.2.2.2.2.1).2.2 HRC.out.2.1 hml)).mono ?_⟩
      rw [HH.out.2.1]
      rintro e W4 ⟨v4, rfl, hv4, hb4⟩
      obtain ⟨A4, c4, rfl, _, _⟩ := Kd.R_reads hv4
      have hl4 : Boxed W4 gl 70 (.slice A3 M.length c3) := (hb4.block gl H5.out.1.lt).trans H5.out.1
      have hcl4 := hl4.cell
      have hfl4 := hl4.frozen
      have H6 := Aside0.mk (⟨hl4, Kd.R_lower (base' := 0) hv4 (Nat.zero_le _), hb4⟩ : _ ∧ _ ∧ _)
      clear hl4 hv4 hb4 hcl3
      gi_wp2
      go_roundw
      case rel =>
        have hb4 := H6.out.2.2
        have hl4 := H6.out.1
        have hne := HNE.out
        have k1 : ∀ k, k ≠ gl → (W4.setCell ⟨gl, 0, none⟩ (.slice A4 M1.length c4)).heap[k]? = W4.heap[k]? := fun k hk => heap_setCell_ne hk
        exact ⟨d + 1, M1, A4, c4, by simp, hd1, ⟨HS1.out, HOd.out.2.2, HOd.out.2.1, by rw [HM.out.2.2.2, HH.out.2.2.2.1]⟩, ⟨by show w.heap.size ≤ (W4.heap.modify _ _).size; rw [Array.size_modify]; have := HZ.out; have := HZ9.out; have := hb4.size; omega⟩,
          ⟨Boxed.set _ hl4, Kd.R_set H6.out.2.1 hl4 (by decide) 0 _, (k1 gs (Ne.symm hne.1)).trans ((hb4.block gs (Array.getElem?_eq_some_iff.1 H5.out.2.1).1).trans H5.out.2.1), (k1 ge (Ne.symm hne.2.1)).trans ((hb4.block ge H5.out.2.2.1.lt).trans H5.out.2.2.1),
            ⟨v9, (k1 gend (Ne.symm hne.2.2.1)).trans ((hb4.block gend H5.out.2.2.2.1.lt).trans H5.out.2.2.2.1)⟩,
            HJ.out (d + 1) W3 _ H5.out.2.2.2.2.2 ((Turns.of_below hb4 (Nat.le_refl _)).trans (Turns.setCell (T := Tw gl gend) (p := ⟨gl, 0, none⟩) (.inl rfl) W4 _))⟩⟩
      case measure => simp [intOf]; omega
end Go.Proofs.YtanabbjakacgbaaDoor.Sp

