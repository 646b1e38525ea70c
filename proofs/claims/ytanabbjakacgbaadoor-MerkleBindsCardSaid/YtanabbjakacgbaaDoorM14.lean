/- Put together by this session's program out of: Hf Hb0. -/
import Derived.Test.YtanabbjakacgbaaDoorM13
import Derived.Test.YtanabbjakacgbaaDoorM12
namespace Go.Proofs.YtanabbjakacgbaaDoor.Sp
open Go.RowKit Go.Proofs.YtanabbjakacgbaaDoorW.PrintWords Go.Proofs.YtanabbjakacgbaaDoorW.PrintLast Go.Proofs.YtanabbjakacgbaaDoorW.PrintMore Go.Proofs.YtanabbjakacgbaaDoor.PM Go.Proofs.YtanabbjakacgbaaDoor.Grow
set_option linter.unusedVariables false
set_option linter.unusedSimpArgs false
set_option maxRecDepth 100000
attribute [local go_sem] Oper.semAt_some
theorem Gd.below {b : Nat} {w w1 : World} {x : Hx} (h : Gd b w x) (hb : Below w.heap.size w w1) : Gd b w1 x := h.keep (Kp.below hb)
theorem Gd.lower {b b' : Nat} {w : World} {x : Hx} (h : Gd b w x) (hb : b' ≤ b) : Gd b' w x := ⟨h.1, h.2.1, h.2.2.lower hb⟩
theorem nodeX_calls (p q : Sm) (b : Nat) (w : World) (hb : b ≤ w.heap.size) :
    Calls Tryd.prog 52 #[.agg (cS p), .agg (cS q)] w fun e w' => ∃ x C, C = cH x ∧ x.h = nodeD p q ∧ e = .returned (.agg C) ∧ Gd b w' x ∧ Below w.heap.size w w' := by
  refine (node4b_calls p q w).mono ?_
  rintro e w' ⟨A, c, rfl, hr, hb'⟩
  exact ⟨⟨A, c, nodeD p q⟩, _, rfl, rfl, rfl, ⟨nodeD_t p q, Fit_node p q, hr.lower hb⟩, hb'⟩
theorem leafX_calls (x : Lf) (hk1 : x.k.size ≤ 100000) (b : Nat) (w : World) (hb : b ≤ w.heap.size) :
    Calls Tryd.prog 51 #[.agg (cL x)] w fun e w' => ∃ y C, C = cH y ∧ y.h = leafD x ∧ e = .returned (.agg C) ∧ Gd b w' y ∧ Below w.heap.size w w' := by
  refine (leaf4b_calls x hk1 w).mono ?_
  rintro e w' ⟨A, c, rfl, hr, hb'⟩
  exact ⟨⟨A, c, leafD x⟩, _, rfl, rfl, rfl, ⟨leafD_t x, Fit_leaf x hk1, hr.lower hb⟩, hb'⟩
theorem sumG_calls {C : Array Value} {x : Hx} (hC : C = cH x) {b : Nat} (w : World) (hg : Gd b w x) (s : Sm) (hs : sumD x.h = s) :
    Calls Tryd.prog 48 #[.agg C] w fun e w' => e = .returned (.agg (cS s)) ∧ Below w.heap.size w w' :=
  sumX_calls hC hg.1 hg.2.1 w hg.2.2.rob s hs
theorem R_setRowT {α : Type} {d : Kd α} {e : Nat} {w : World} {base g t : Nat} {v : Value} {xs : List α} {cells : Array Value} {fr : Nat × Nat} (h : d.R e w base (fun _ => True) v xs) (hg : w.heap[g]? = some (.cells cells t fr)) (hne : ∀ q, q ∈ e :: d.E → q ≠ t) (cs : Array Value) : d.R e (w.setRow g cs) base (fun _ => True) v xs :=
  Kd.R_mono (Kd.R_step (Kd.R_bound h) (fun k hk _ => setRow_other _ _ _ _ (fun e1 => by
    obtain ⟨_, _, _, q, hq, cells', hc'⟩ := hk
    rw [e1, hg] at hc'
    injection hc' with hc'
    injection hc' with _ hc'
    exact hne q hq hc'.symm))) (fun _ _ => trivial)
structure ChSt (wB : World) (b6 b : Nat) (s now : Sm) (v : Value) (hs : List Hd) (w : World) : Prop where
  below : Below wB.heap.size wB w
  h6 : w.heap[b6]? = some (.cells (cS now) 27 (0, 0))
  h7 : w.heap[b6 + 1]? = some (.cells (cS s) 27 (0, 0))
  row : Hrow wB.heap.size b w v hs
  lt : wB.heap.size ≤ b6 ∧ b6 + 1 < b ∧ b ≤ w.heap.size
section
variable {wB w w' : World} {b6 b : Nat} {s now : Sm} {v : Value} {hs : List Hd}
theorem ChSt.next (h : ChSt wB b6 b s now v hs w) (hb : Below w.heap.size w w') : ChSt wB b6 b s now v hs w' :=
  ⟨below_tr h.below hb h.below.size, at_next h.h6 hb, at_next h.h7 hb, h.row.below hb, by have := h.lt; have := hb.size; omega⟩
theorem ChSt.set (h : ChSt wB b6 b s now v hs w) (n : Sm) : ChSt wB b6 b s n v hs (w.setRow b6 (cS n)) := by
  have hl := h.lt
  refine ⟨below_setRow h.below (by omega), setRow_heap _ _ _ _ _ _ h.h6, (setRow_other _ _ _ _ (by omega)).trans h.h7, ?_, by rw [size_setRow]; omega⟩
  obtain ⟨L, h1, h2, h3⟩ := h.row
  exact ⟨L, R_setRowT h1 h.h6 (by intro q hq; simp [kH, flat] at hq; rw [hq]; decide) _, h2, fun x hx => (h3 x hx).keep (Kp.low (by omega))⟩
theorem ChSt.app {v1 : Value} {w1 : World} {hs1 : List Hd} (h : ChSt wB b6 b s now v hs w) (hr : Hrow wB.heap.size b w1 v1 hs1) (hb : Below wB.heap.size wB w1) (hk : Kp 0 w w1) (hz : w.heap.size ≤ w1.heap.size) : ChSt wB b6 b s now v1 hs1 w1 :=
  ⟨hb, hk b6 _ (Nat.zero_le _) h.h6 (fun _ _ e => by injection e with _ e; revert e; decide), hk _ _ (Nat.zero_le _) h.h7 (fun _ _ e => by injection e with _ e; revert e; decide), hr, by have := h.lt; omega⟩
theorem Hrow.own {B : Nat} (h : Hrow B b w v hs) {k : Nat} (hk : v.ownBlock = some k) : k < w.heap.size := by
  obtain ⟨L, h1, _, _⟩ := h
  obtain ⟨inner, ho⟩ := Kd.R_own h1
  obtain ⟨cells, hc⟩ := own_typed ho k hk
  exact (Array.getElem?_eq_some_iff.1 hc).1
end
theorem Kp.mono {b : Nat} {w w1 : World} (h : Kp 0 w w1) : Kp b w w1 := fun k o _ ho hn => h k o (Nat.zero_le _) ho hn
def nodF (p q : Sm) (b B : Nat) (i : Nat) (v : Value) (w : World) : Prop :=
  match i with
  | 6 => ∃ x C, v = .agg C ∧ C = cH x ∧ x.h = nodeD p q ∧ Gd b w x
  | _ => ∃ k, v = .pointer (some ⟨k, 0, none⟩) ∧ B ≤ k ∧ w.heap[k]? = some (.cells (cH zX) 91 (0, 0))
theorem nodF_mono (p q : Sm) (b B : Nat) : ∀ i v w w', nodF p q b B i v w → Below w.heap.size w w' → nodF p q b B i v w' := by
  intro i v w w' h hb
  unfold nodF at h ⊢
  split at h
  · obtain ⟨x, C, h1, h2, h3, h4⟩ := h
    exact ⟨x, C, h1, h2, h3, h4.below hb⟩
  · obtain ⟨k, h1, h2, h3⟩ := h
    exact ⟨k, h1, h2, at_next h3 hb⟩
theorem zero91 (w : World) : (zeroValue 91).run Tryd.prog w = .ok (.agg (cH zX)) w := by
  obtain ⟨i, hi, hz⟩ := Option.map_eq_some_iff.1 infoX
  simp only [Prod.mk.injEq] at hz
  simp [zeroValue, typeInfo, hi, hz.1, go_sem]
theorem oneX (x : Hx) : (cH x).all (·.oneCell') = true := all_one two_one
theorem chL_step (s : Sm) (p : List Sm) (i : Nat) (hi : i < p.length) (now : Sm) : chL s (p.drop i) i now = chL s (p.drop (i + 1)) (i + 1) now ++ [if bitI s i = 1 then nodeD (p.getD i zS) (upL s (p.drop (i + 1)) (i + 1) now) else nodeD (upL s (p.drop (i + 1)) (i + 1) now) (p.getD i zS)] := by
  rw [List.drop_eq_getElem_cons hi, chL, List.getD_eq_getElem?_getD, List.getElem?_eq_getElem hi]
  rfl
theorem up_step (s : Sm) (p : List Sm) (i : Nat) (hi : i < p.length) (now : Sm) : upL s (p.drop i) i now = sumD (if bitI s i = 1 then nodeD (p.getD i zS) (upL s (p.drop (i + 1)) (i + 1) now) else nodeD (upL s (p.drop (i + 1)) (i + 1) now) (p.getD i zS)) := by
  rw [List.drop_eq_getElem_cons hi, up_node, List.getD_eq_getElem?_getD, List.getElem?_eq_getElem hi]
  rfl
theorem chL_len (s : Sm) : ∀ (p : List Sm) (d : Nat) (now : Sm), (chL s p d now).length = p.length
  | [], _, _ => rfl
  | _ :: p, d, now => by rw [chL, List.length_append, chL_len s p]; rfl
theorem chain_len (k : ByteArray) (p : List Sm) (e : Int) (l : Lf) : (chainOf k p e l).length ≤ p.length + 1 := by
  rw [chainOf, List.length_append, chL_len, baseL]
  split
  · simp
  · simp; omega
theorem ld_C {w : World} {C : Array Value} {b : Nat} (hg : w.heap[b]? = some (.cells C 91 (0, 0))) (x : Hx) (hC : C = cH x) : (loadVar 91 ⟨b, 0, none⟩).run Tryd.prog w = .ok (.agg C) w := by
  subst hC
  exact le_H (row_cells hg) (Below.refl _ _) 0
set_option maxHeartbeats 4000000 in
theorem Chain_calls (k : ByteArray) (hk1 : k.size ≤ 100000) (A : Option Addr) (p : List Sm) (c : Nat) (hp : p.length ≤ 256) (e : Int) (l : Lf) (hl1 : l.k.size ≤ 100000) (w : World) (hr : kS.C w A p.length p) :
    Calls Tryd.prog 19 #[.string k, .agg (cP (.slice A p.length c) e l)] w fun r w' => ∃ A' c', r = .returned (.slice A' (chainOf k p e l).length c') ∧ Hrd w' A' c' (chainOf k p e l) ∧ Below w.heap.size w w' := by
  obtain ⟨g, hg⟩ : ∃ g, g = w.heap.size := ⟨_, rfl⟩
  obtain ⟨C, hC⟩ : ∃ C, C = cP (.slice A p.length c) e l := ⟨_, rfl⟩
  rw [← hC]
  obtain ⟨wb, hwb⟩ : ∃ wb, w.alloc (.cells C 36) = wb := ⟨_, rfl⟩
  have h0 : wb.heap[g]? = some (.cells C 36 (0, 0)) := by rw [← hwb]; exact h_new hg
  have hb : Below w.heap.size w wb := by rw [← hwb]; exact below_alloc (Below.refl _ _) _
  have HB := Aside0.mk (⟨h0, hb, Kd.C_below hr hb⟩ : _ ∧ _ ∧ _)
  have HC := Aside0.mk hC
  have HWB := Aside0.mk hwb
  have HG := Aside0.mk hg
  obtain ⟨s, hs0⟩ : ∃ s, hk k = s := ⟨_, rfl⟩
  have HK := Aside0.mk hs0
  obtain ⟨base, hba⟩ : ∃ n, baseS e l = n := ⟨_, rfl⟩
  have HBA := Aside0.mk hba
  have hcc : ∀ W : World, W.heap[g]? = some (.cells C 36 (0, 0)) → W.cell? ⟨g, 0, none⟩ = some (.slice A p.length c) ∧ W.cell? ⟨g, 1, none⟩ = some (.int .i64 e) ∧ (∀ j u, (cL l).toList[j]? = some u → W.cell? ((⟨g, 2, none⟩ : Addr).add j) = some u) := fun W h => by
    rw [HC.out] at h
    exact ⟨cell_P0 h, cell_P1 h, cells_P2 h⟩
  have HCC := Aside0.mk hcc
  clear h0 hb hC hwb hg hr hs0 hba hcc
  go_enter Tryd.func19, Tryd.ntmps19
  go_wp2_with (first
    | ((with_reducible refine gate_dst (N := 10) rfl ?_); rw [HWB.out, ← HG.out]; (refine bs0_H (wa := wb) rfl rfl rfl wb.heap.size 0 (Below.refl _ _) (Nat.le_refl _) ?_); intro v0 w1 hv0 hb1 hs1; have H1 := Aside0.mk (And.intro hv0 hb1); clear hv0 hb1 hs1)
    | ((with_reducible refine gate_dst (N := 11) rfl ?_); (refine wpList_built0 rfl 27 rfl (cS zS) (by kernel_rfl) ?_))
    | ((with_reducible refine gate_dst (N := 13) rfl ?_); (refine wpList_str rfl (.tmp 12) rfl k rfl Tryd.underlying9 Tryd.underlying50 Tryd.underlying5 ?_))
    | (go_at_call 43; (refine (sumK3_calls k (by omega) w1).mono ?_); rw [HK.out]; rintro e w2 ⟨rfl, hb2⟩; have hb3 := below_tr (bytes_below' w1 k) hb2 (bytes_below' w1 k).size; have H2 := Aside0.mk (And.intro (Hrow.below H1.out.1 hb3) (below_tr H1.out.2 hb3 H1.out.2.size)); clear hb2 hb3)
    | ((with_reducible refine gate_dst (N := 6) rfl ?_); (refine wpList_allocz rfl 27 (cS zS) rfl zero27 ?_))
    | ((with_reducible refine gate_dst (N := 7) rfl ?_); (refine wpList_allocz rfl 27 (cS zS) rfl zero27 ?_); rw [size_alloc]; obtain ⟨g6, hg6⟩ : ∃ g, g = w2.heap.size := ⟨_, rfl⟩; obtain ⟨wx, hwx⟩ : ∃ wx, (w2.alloc (.cells (cS zS) 27)).alloc (.cells (cS zS) 27) = wx := ⟨_, rfl⟩; obtain ⟨wy, hwy⟩ : ∃ wy, (wx.setRow g6 (cS zS)).setRow (g6 + 1) (cS s) = wy := ⟨_, rfl⟩; have HTK := Aside0.mk (two_kinds hg6 hwx hwy); have HSZ := Aside0.mk (show wy.heap.size = g6 + 2 by rw [← hwy, size_setRow, size_setRow, ← hwx, size_alloc, size_alloc, hg6]); have HWX := Aside0.mk hwx; have HWY := Aside0.mk hwy; rw [← hg6]; have HG6 := Aside0.mk hg6; clear hwx hwy hg6)
    | ((with_reducible refine gate_store (t := 27) (p := 6) rfl ?_); rw [HWX.out]; (refine wpList_store_row rfl 27 (.tmp 6) (.tmp 11) rfl g6 (cS zS) rfl rfl 27 (cS zS) HTK.out.1 (by rw [cS_size]; kernel_rfl) (by rw [cS_size]) (encI_one _) ?_))
    | ((with_reducible refine gate_store (t := 27) (p := 7) rfl ?_); (refine wpList_store_row rfl 27 (.tmp 7) (.tmp 14) rfl (g6 + 1) (cS s) rfl rfl 27 (cS zS) HTK.out.2.1 (by rw [cS_size]; kernel_rfl) (by rw [cS_size, cS_size]) (encI_one _) ?_); (refine at_world (w' := wy) HWY.out ?_); refine pause_ ?_))
  have hst : ChSt wb g6 (g6 + 2) s zS v0 [] wy := by
    have h3 := HG6.out
    have h4 := HTK.out.2.2.2.2
    have h5 := H2.out.2
    have h6 := HSZ.out
    refine ⟨below_tr h5 h4 h5.size, HTK.out.2.2.1, HTK.out.2.2.2.1, ?_, ?_⟩
    · obtain ⟨L, k1, k2, k3⟩ := H2.out.1
      obtain rfl : L = [] := List.map_eq_nil_iff.1 k2
      exact ⟨[], Kd.R_below k1 h4, rfl, fun _ hx => by cases hx⟩
    · have := h5.size
      omega
  by_cases he : e = 0
  · have HST : Aside0 (ChSt wb g6 (g6 + 2) s base v0 (baseL e l) wy) := Aside0.mk (by rw [← HBA.out, baseS, baseL, if_pos he, if_pos he]; exact hst)
    have heb : (e != 0) = false := by simp [he]
    have hx := (HCC.out wy (at_next HB.out.1 HST.out.below)).2.1
    have hx2 := (HCC.out wy (at_next HB.out.1 HST.out.below)).1
    clear he hst
    refine unpause_ ?_
    go_wp2
    try rw [heb]
    clear heb hx hx2
    go_loopw [5, 8] (fun v i wr => ∃ (n : Nat) (v' : Value), v' = v ∧ i = .int .i64 ((n : Int) - 1) ∧ n ≤ p.length ∧ Aside0 (ChSt wb g6 (g6 + 2) s (upL s (p.drop n) n base) v' (baseL e l ++ chL s (p.drop n) n base) wr)) (fun _ i _ => (intOf i + 1).toNat)
    case atStart => exact ⟨p.length, _, rfl, by simp, by omega, by rw [List.drop_length, upL, chL, List.append_nil]; exact HST⟩
    case round =>
      clear HST HTK HSZ HWX HWY HG6 H2 H1
      obtain ⟨n, v, rfl, rfl, hn, HS0⟩ := hrel
      obtain ⟨Av, cv, ev, hrd⟩ := HS0.out.row.rd
      rcases Nat.eq_zero_or_pos n with hn0 | hn0
      · subst hn0
        have hch : baseL e l ++ chL s (p.drop 0) 0 base = chainOf k p e l := by rw [List.drop_zero, chainOf, HK.out, HBA.out]
        rw [hch] at ev hrd
        subst ev
        have HQ := Aside0.mk (And.intro hrd (HB.out.2.1.trans (HS0.out.below.mono HB.out.2.1.size)))
        clear hrd hch HS0
        go_wp2
        go_ret
        exact ⟨Av, cv, rfl, HQ.out⟩
      · obtain ⟨m, rfl⟩ : ∃ m, n = m + 1 := ⟨n - 1, by omega⟩
        rw [show (((m + 1 : Nat) : Int) - 1) = (m : Int) by omega]
        have c5b : (m : Int) < (p.length : Int) := by omega
        have c5c := eq_true c5b
        have c5d : ((0 : Int) ≤ (m : Int)) = True := eq_true (by omega)
        obtain ⟨now, hnow⟩ : ∃ x, upL s (p.drop (m + 1)) (m + 1) base = x := ⟨_, rfl⟩
        obtain ⟨o, ho⟩ : ∃ x, p.getD m zS = x := ⟨_, rfl⟩
        have hst := HS0.out
        rw [hnow] at hst
        obtain ⟨ad, eA, hat⟩ := at_flat HB.out.2.2 zS (m : Int) (by omega) c5b
        rw [show ((m : Int).toNat) = m by omega, ho] at hat
        subst eA
        have hk1' := chL_step s p m (by omega) base
        have hk2' := up_step s p m (by omega) base
        rw [ho, hnow] at hk1' hk2'
        have HS := Aside0.mk (⟨hst, hat, ev⟩ : ChSt wb g6 (g6 + 2) s now v _ wr ∧ _ ∧ _)
        have HKS := Aside0.mk (And.intro hk1' hk2')
        have HKL := Aside0.mk (show (baseL e l ++ chL s (p.drop (m + 1)) (m + 1) base).length ≤ 1000 by
          rw [List.length_append, chL_len, List.length_drop, baseL]
          split <;> simp <;> omega)
        clear hst hat hk1' hk2' hnow ho HS0 hrd ev
        have hcx := (HCC.out wr (at_next HB.out.1 HS.out.1.below)).1
        go_wp2
        refine start_ (n := 9) (S := fun w' => Below wr.heap.size wr w') (ds := []) #[false, false, false, false, false, false, false, false, false] (by kernel_rfl) rfl rfl (Below.refl _ _).drew (fun hHeld => ?_)
        refine take_ (i := 0) (N := some 36) (v := .agg (cS now)) (a' := ?_) #[true, false, false, false, false, false, false, false, false] rfl rfl (by kernel_rfl) (fun _ _ _ h => h) (Or.inl ⟨by rfl, fun w' hS => yield_load _ _ rfl _ rfl (ld_S (HS.out.1.next hS).h6 0)⟩) hHeld ?_ ?_
        rotate_left
        · simp only [Act.put, List.setIfInBounds_toArray, List.set_cons_zero, List.set_cons_succ, i64_w, i32_w]
          rfl
        refine pure_ (i := 1) (N := some 37) (v := ?_) (a' := ?_) #[true, true, false, false, false, false, false, false, false] rfl rfl (by kernel_rfl) (fun _ _ _ h => h) (Or.inl ⟨by rfl, ?_⟩) ?_ ?_
        rotate_left
        · intro w'
          go_simp
          with_reducible rfl
        rotate_left
        · simp only [Act.put, List.setIfInBounds_toArray, List.set_cons_zero, List.set_cons_succ, i64_w, i32_w]
          rfl
        refine take_ (i := 2) (N := some 38) (v := ?_) (a' := ?_) #[true, true, true, false, false, false, false, false, false] rfl rfl (by kernel_rfl) (fun _ _ _ h => h) (Or.inl ⟨by rfl, ?_⟩) hHeld ?_ ?_
        rotate_left
        · intro w' hS
          have hx := (HCC.out w' (at_next HB.out.1 (HS.out.1.next hS).below)).1
          go_simp
          with_reducible rfl
        rotate_left
        · simp only [Act.put, List.setIfInBounds_toArray, List.set_cons_zero, List.set_cons_succ, i64_w, i32_w]
          rfl
        refine pure_ (i := 3) (N := some 39) (v := ?_) (a' := ?_) #[true, true, true, true, false, false, false, false, false] rfl rfl (by kernel_rfl) (fun _ _ _ h => h) (Or.inl ⟨by rfl, ?_⟩) ?_ ?_
        rotate_left
        · intro w'
          go_simp
          with_reducible rfl
        rotate_left
        · simp only [Act.put, List.setIfInBounds_toArray, List.set_cons_zero, List.set_cons_succ, i64_w, i32_w]
          rfl
        refine pure_ (i := 4) (N := some 40) (v := ?_) (a' := ?_) #[true, true, true, true, true, false, false, false, false] rfl rfl (by kernel_rfl) (fun _ _ _ h => h) (Or.inl ⟨by rfl, ?_⟩) ?_ ?_
        rotate_left
        · intro w'
          go_simp
          with_reducible rfl
        rotate_left
        · simp only [Act.put, List.setIfInBounds_toArray, List.set_cons_zero, List.set_cons_succ, i64_w, i32_w]
          rfl
        refine take_ (i := 5) (N := some 41) (v := .agg (cS o)) (a' := ?_) #[true, true, true, true, true, true, false, false, false] rfl rfl (by kernel_rfl) (fun _ _ _ h => h) (Or.inl ⟨by rfl, fun w' hS => yield_load _ _ rfl _ rfl (le_S HS.out.2.1 (HS.out.1.next hS).below 0)⟩) hHeld ?_ ?_
        rotate_left
        · simp only [Act.put, List.setIfInBounds_toArray, List.set_cons_zero, List.set_cons_succ, i64_w, i32_w]
          rfl
        refine makers3_ (n := 8) (f := 2) (fe := 1) #[true, true, true, true, true, true, false, false, false] #[true, true, true, true, true, true, true, true, false] (by kernel_rfl) [36, 37, 38, 39, 40, 41, 42, 9] (by kernel_rfl) (by kernel_rfl) rfl (nodF now o (g6 + 2) wr.drew.heap.size) (fun _ => false) (fun _ h => below_tr hHeld h hHeld.size) (nodF_mono _ _ _ _) ?hstep ?hend
        case hstep =>
          intro i o' hi hu ho' vs w2 hv hb2 hd K hK
          have h0 : vs 0 = .agg (cS now) := hv 0 (by decide) (by decide)
          have h5 : vs 5 = .agg (cS o) := hv 5 (by decide) (by decide)
          have hsz : g6 + 2 ≤ w2.heap.size := Nat.le_trans HS.out.1.lt.2.2 (below_tr hHeld hb2 hHeld.size).size
          simp only [fil2, List.zipIdx_cons, List.zipIdx_nil, List.foldl_cons, List.foldl_nil, List.setIfInBounds_toArray, List.set_cons_zero, List.set_cons_succ, Nat.zero_add, Nat.reduceAdd] at hK ⊢
          match i, hi, hu, ho', hK, hd with
          | 6, _, _, ho', hK, hd =>
            obtain rfl : _ = o' := Option.some.inj ho'
            refine gr_go Tryd.func52 (by kernel_rfl) rfl #[.agg (cS now), .agg (cS o)] rfl (by simp only [List.map_toArray, List.map_cons, List.map_nil]; rw [← h0, ← h5]; rfl) ?_
            refine (nodeX_calls now o (g6 + 2) w2 hsz).mono ?_
            rintro e w3 ⟨x, C, hC, hx, rfl, hg, hb3⟩
            exact ⟨_, rfl, hK _ _ ⟨x, C, rfl, hC, hx, hg⟩ hb3 (fun h => by cases h)⟩
          | 7, _, _, ho', hK, hd =>
            obtain rfl : _ = o' := Option.some.inj ho'
            exact gr_alloc 91 (.agg (cH zX)) rfl zero91 (hK _ _ ⟨_, rfl, hb2.size, h_new rfl⟩ (below_alloc (Below.refl _ _) _) (fun h => by cases h))
          | 0, _, hu, _, _, _ => exact absurd hu (by decide)
          | 1, _, hu, _, _, _ => exact absurd hu (by decide)
          | 2, _, hu, _, _, _ => exact absurd hu (by decide)
          | 3, _, hu, _, _, _ => exact absurd hu (by decide)
          | 4, _, hu, _, _, _ => exact absurd hu (by decide)
          | 5, _, hu, _, _, _ => exact absurd hu (by decide)
          | _ + 8, hi, _, _, _, _ => exact absurd hi (by omega)
        case hend =>
          intro vs w6 hv hb6 hF hD
          simp only [fil2, List.zipIdx_cons, List.zipIdx_nil, List.foldl_cons, List.foldl_nil, List.setIfInBounds_toArray, List.set_cons_zero, List.set_cons_succ, Nat.zero_add, Nat.reduceAdd]
          obtain ⟨x, C8, f6, hC8, hxh, hg8⟩ : ∃ x C, vs 6 = .agg C ∧ C = cH x ∧ x.h = nodeD now o ∧ Gd (g6 + 2) w6 x := hF 6 (by decide) rfl
          obtain ⟨b9, f7, B9, h9⟩ : ∃ k, vs 7 = .pointer (some ⟨k, 0, none⟩) ∧ wr.drew.heap.size ≤ k ∧ w6.heap[k]? = some (.cells (cH zX) 91 (0, 0)) := hF 7 (by decide) rfl
          rw [f6, f7]
          have hHeld := below_tr hHeld hb6 hHeld.size
          have B9 : wr.heap.size ≤ b9 := B9
          have HB9 := Aside0.mk B9
          clear f6 f7 hF hD hv hb6
          generalize vs 0 = v0
          generalize vs 1 = v1
          generalize vs 2 = v2
          generalize vs 3 = v3
          generalize vs 4 = v4
          generalize vs 5 = v5
          have o8 : C8.all (·.oneCell') = true := by rw [hC8]; exact oneX x
          have z8 : C8.size = 2 := by rw [hC8]; rfl
          refine one_ (i := 8) (N := none) #[true, true, true, true, true, true, true, true, true] rfl rfl (by kernel_rfl) (by decide) (fun K hK => ?_)
          refine st_row (by rfl) rfl 91 (.tmp 9) (.tmp 42) rfl b9 C8 rfl rfl 91 (cH zX) h9 (by rw [z8]; kernel_rfl) (by rw [z8]; rfl) o8 ?_
          refine hK.out _ _ (below_setRow hHeld B9) (fun hHeld => ?_)
          clear hK K
          refine done_ (by kernel_rfl) ?_
          obtain ⟨wz, hwz⟩ : ∃ W, w6.setRow b9 C8 = W := ⟨_, rfl⟩
          have hz9 : wz.heap[b9]? = some (.cells C8 91 (0, 0)) := by rw [← hwz]; exact setRow_heap _ _ _ _ _ _ h9
          have hgz : Gd (g6 + 2) wz x := by rw [← hwz]; exact hg8.keep (Kp.row h9)
          rw [hwz] at hHeld ⊢
          have HZ := Aside0.mk (⟨HS.out.1.next hHeld, hC8, hxh, hz9, hgz, hHeld⟩ : ChSt wb g6 (g6 + 2) s now v _ wz ∧ C8 = cH x ∧ x.h = nodeD now o ∧ _ ∧ Gd (g6 + 2) wz x ∧ Below wr.heap.size wr wz)
          clear hwz hz9 hgz hHeld h9 B9 hC8 hxh hg8 o8 z8
          rcases bitI_01 s m with hbit | hbit
          · have HBIT := Aside0.mk hbit
            have HNX := Aside0.mk (show sumD x.h = sumD (if bitI s m = 1 then nodeD o now else nodeD now o) by rw [HZ.out.2.2.1, HBIT.out, if_neg (by decide)])
            clear hbit
            go_wp2_with (first
              | ((with_reducible refine gate_dst (N := 43) rfl ?_); (refine wpList_loadv rfl 27 _ rfl _ rfl _ (ld_S HZ.out.1.h7 0) ?_))
              | (go_at_call 45; (refine (bit4_calls s m (by omega) wz).mono ?_); rw [HBIT.out]; rintro e w9 ⟨rfl, hb9⟩; have H9 := Aside0.mk hb9; clear hb9; (obtain ⟨C9, e9⟩ : ∃ C, C = C8 := ⟨_, rfl⟩); (obtain ⟨y, ey⟩ : ∃ y, y = x := ⟨_, rfl⟩); (obtain ⟨nx, hnx⟩ : ∃ nx, sumD x.h = nx := ⟨_, rfl⟩); have HN := Aside0.mk (⟨HZ.out.1.next H9.out, by rw [e9, ey]; exact HZ.out.2.1, by rw [ey, HZ.out.2.2.1, HBIT.out, if_neg (by decide)], by rw [e9]; exact at_next HZ.out.2.2.2.1 H9.out, by rw [ey]; exact HZ.out.2.2.2.2.1.below H9.out⟩ : ChSt wb g6 (g6 + 2) s now v _ w9 ∧ C9 = cH y ∧ y.h = (if bitI s m = 1 then nodeD o now else nodeD now o) ∧ w9.heap[b9]? = some (.cells C9 91 (0, 0)) ∧ Gd (g6 + 2) w9 y); have HNX := Aside0.mk (show sumD y.h = nx by rw [ey]; exact hnx); have HK2 := Aside0.mk (show upL s (p.drop m) m base = nx ∧ baseL e l ++ chL s (p.drop m) m base = baseL e l ++ chL s (p.drop (m + 1)) (m + 1) base ++ [if bitI s m = 1 then nodeD o now else nodeD now o] by rw [HKS.out.1, HKS.out.2, ← HN.out.2.2.1, HNX.out, List.append_assoc]; exact ⟨rfl, rfl⟩); clear e9 ey hnx HBIT; have HLD9 := Aside0.mk (show ∀ W, Below w9.heap.size w9 W → (loadVar 91 ⟨b9, 0, none⟩).run Tryd.prog W = .ok (.agg C9) W from fun W hb => ld_C (w := W) (at_next HN.out.2.2.2.1 hb) y HN.out.2.1))
              | ((with_reducible refine gate_dst (N := 55) rfl ?_); (refine wpList_loadv rfl 91 _ rfl _ rfl _ (HLD9.out w9 (Below.refl _ _)) ?_))
              | ((with_reducible refine gate_dst (N := 56) rfl ?_); (refine bs1_H rfl _ rfl y (by rw [← HN.out.2.1]; rfl) ?_))
              | ((with_reducible refine gate_dst (N := 57) rfl ?_); (refine app_H (wa := wb) rfl (.tmp 54) (.tmp 56) rfl v (baseL e l ++ chL s (p.drop (m + 1)) (m + 1) base) y rfl rfl wb.heap.size (g6 + 2) HN.out.1.row HN.out.2.2.2.2 HN.out.1.below HN.out.1.below.size (by have := HKL.out; omega) ?_); intro v1 wa hva hba hka hza hoa; rw [HN.out.2.2.1] at hva; have st := HN.out.1.app hva hba hka hza; have ha9 := (hoa b9 (Array.getElem?_eq_some_iff.1 HN.out.2.2.2.1).1 (fun e => absurd (Hrow.own HS.out.1.row e.symm) (by have := HB9.out; omega))).trans HN.out.2.2.2.1; have HA := Aside0.mk (⟨st, ld_C ha9 y HN.out.2.1, HN.out.2.2.2.2.keep (Kp.mono hka)⟩ : ChSt wb g6 (g6 + 2) s _ v1 _ wa ∧ (loadVar 91 ⟨b9, 0, none⟩).run Tryd.prog wa = .ok (.agg C9) wa ∧ Gd (g6 + 2) wa y); clear hva hba hka hza hoa st ha9)
              | ((with_reducible refine gate_dst (N := 58) rfl ?_); (refine wpList_loadv rfl 91 _ rfl _ rfl _ HA.out.2.1 ?_))
              | (go_at_call 48; (with_reducible refine (sumG_calls HN.out.2.1 wa HA.out.2.2 nx HNX.out).mono ?_); rintro e w8 ⟨rfl, hb8⟩; have H8 := Aside0.mk (HA.out.1.next hb8); clear hb8)
              | ((with_reducible refine gate_store (t := 27) (p := 6) rfl ?_); (refine wpList_store_row rfl 27 (.tmp 6) (.tmp 59) rfl g6 (cS nx) rfl rfl 27 (cS _) H8.out.h6 (by rw [cS_size]; kernel_rfl) (by rw [cS_size, cS_size]) (encI_one _) ?_)))
            exact ⟨⟨m, v1, rfl, rfl, by omega, by rw [HK2.out.1, HK2.out.2]; exact ⟨H8.out.set nx⟩⟩, by simp [intOf]⟩
          · have HBIT := Aside0.mk hbit
            clear hbit
            have hcz := (HCC.out wz (at_next HB.out.1 HZ.out.1.below)).1
            go_wp2_with (first
              | ((with_reducible refine gate_dst (N := 43) rfl ?_); (refine wpList_loadv rfl 27 _ rfl _ rfl _ (ld_S HZ.out.1.h7 0) ?_))
              | (go_at_call 45; (refine (bit4_calls s m (by omega) wz).mono ?_); rw [HBIT.out]; rintro e wt ⟨rfl, hbt⟩; have HT := Aside0.mk (⟨HZ.out.1.next hbt, at_next HZ.out.2.2.2.1 hbt, below_tr HZ.out.2.2.2.2.2 hbt HZ.out.2.2.2.2.2.size⟩ : ChSt wb g6 (g6 + 2) s now v _ wt ∧ _ ∧ _); clear hbt hcz))
            refine start_ (n := 8) (S := fun w' => Below wt.heap.size wt w') (ds := [7]) #[false, false, false, false, false, false, false, false] (by kernel_rfl) rfl rfl (Below.refl _ _).drew (fun hHeld => ?_)
            refine pure_ (i := 0) (N := some 47) (v := ?_) (a' := ?_) #[true, false, false, false, false, false, false, false] rfl rfl (by kernel_rfl) (fun _ _ _ h => h) (Or.inl ⟨by rfl, ?_⟩) ?_ ?_
            rotate_left
            · intro w'
              go_simp
              with_reducible rfl
            rotate_left
            · simp only [Act.put, List.setIfInBounds_toArray, List.set_cons_zero, List.set_cons_succ, i64_w, i32_w]
              rfl
            refine take_ (i := 1) (N := some 48) (v := ?_) (a' := ?_) #[true, true, false, false, false, false, false, false] rfl rfl (by kernel_rfl) (fun _ _ _ h => h) (Or.inl ⟨by rfl, ?_⟩) hHeld ?_ ?_
            rotate_left
            · intro w' hS
              have hx := (HCC.out w' (at_next HB.out.1 (HT.out.1.next hS).below)).1
              go_simp
              with_reducible rfl
            rotate_left
            · simp only [Act.put, List.setIfInBounds_toArray, List.set_cons_zero, List.set_cons_succ, i64_w, i32_w]
              rfl
            refine pure_ (i := 2) (N := some 49) (v := ?_) (a' := ?_) #[true, true, true, false, false, false, false, false] rfl rfl (by kernel_rfl) (fun _ _ _ h => h) (Or.inl ⟨by rfl, ?_⟩) ?_ ?_
            rotate_left
            · intro w'
              go_simp
              with_reducible rfl
            rotate_left
            · simp only [Act.put, List.setIfInBounds_toArray, List.set_cons_zero, List.set_cons_succ, i64_w, i32_w]
              rfl
            refine pure_ (i := 3) (N := some 50) (v := ?_) (a' := ?_) #[true, true, true, true, false, false, false, false] rfl rfl (by kernel_rfl) (fun _ _ _ h => h) (Or.inl ⟨by rfl, ?_⟩) ?_ ?_
            rotate_left
            · intro w'
              go_simp
              with_reducible rfl
            rotate_left
            · simp only [Act.put, List.setIfInBounds_toArray, List.set_cons_zero, List.set_cons_succ, i64_w, i32_w]
              rfl
            refine take_ (i := 4) (N := some 51) (v := .agg (cS o)) (a' := ?_) #[true, true, true, true, true, false, false, false] rfl rfl (by kernel_rfl) (fun _ _ _ h => h) (Or.inl ⟨by rfl, fun w' hS => yield_load _ _ rfl _ rfl (le_S HS.out.2.1 (HT.out.1.next hS).below 0)⟩) hHeld ?_ ?_
            rotate_left
            · simp only [Act.put, List.setIfInBounds_toArray, List.set_cons_zero, List.set_cons_succ, i64_w, i32_w]
              rfl
            refine take_ (i := 5) (N := some 52) (v := .agg (cS now)) (a' := ?_) #[true, true, true, true, true, true, false, false] rfl rfl (by kernel_rfl) (fun _ _ _ h => h) (Or.inl ⟨by rfl, fun w' hS => yield_load _ _ rfl _ rfl (ld_S (HT.out.1.next hS).h6 0)⟩) hHeld ?_ ?_
            rotate_left
            · simp only [Act.put, List.setIfInBounds_toArray, List.set_cons_zero, List.set_cons_succ, i64_w, i32_w]
              rfl
            refine one_ (i := 6) (N := some 53) #[true, true, true, true, true, true, true, false] rfl rfl (by kernel_rfl) (by decide) (fun K hK => ?_)
            refine goes_ Tryd.func52 (by kernel_rfl) rfl #[.agg (cS o), .agg (cS now)] (by rfl) rfl rfl (by simp only [List.map_toArray, List.map_cons, List.map_nil]; rfl) ?_
            refine (nodeX_calls o now (g6 + 2) _ (HT.out.1.next hHeld).lt.2.2).mono ?_
            rintro e wu ⟨y, C9, hC9, hyh, rfl, hgu, hbu⟩
            refine ⟨_, rfl, ?_⟩
            have hHu := below_tr hHeld hbu hHeld.size
            refine hK.out _ _ (below_tr hHeld hbu hHeld.size) (fun hHeld => ?_)
            clear hK K
            refine norm_ (a' := ?_) ?_ ?_
            rotate_left
            · show Act.put _ (some 53) _ = _
              simp only [Act.put, List.setIfInBounds_toArray, List.set_cons_zero, List.set_cons_succ, i64_w, i32_w]
              rfl
            have o9 : C9.all (·.oneCell') = true := by rw [hC9]; exact oneX y
            have z9 : C9.size = 2 := by rw [hC9]; rfl
            have hu9 := at_next HT.out.2.1 hHu
            have hb9t : wr.heap.size ≤ b9 := HB9.out
            refine last_ (i := 7) (N := none) #[true, true, true, true, true, true, true, true] rfl rfl (by kernel_rfl) (by decide) (fun K hK => ?_)
            refine st_row (by rfl) rfl 91 (.tmp 9) (.tmp 53) rfl b9 C9 rfl rfl 91 C8 hu9 (by rw [z9]; kernel_rfl) (by rw [z9, HZ.out.2.1]; rfl) o9 ?_
            have hHw := below_setRow (cs := C9) (below_tr HT.out.2.2 hHu HT.out.2.2.size) HB9.out
            refine hK.out _ _ ?_
            clear hK K
            refine done_ (by kernel_rfl) ?_
            obtain ⟨w9, hw9⟩ : ∃ W, wu.setRow b9 C9 = W := ⟨_, rfl⟩
            have hz9 : w9.heap[b9]? = some (.cells C9 91 (0, 0)) := by rw [← hw9]; exact setRow_heap _ _ _ _ _ _ hu9
            have hg9 : Gd (g6 + 2) w9 y := by rw [← hw9]; exact hgu.keep (Kp.row hu9)
            rw [hw9] at hHw ⊢
            obtain ⟨nx, hnx⟩ : ∃ nx, sumD y.h = nx := ⟨_, rfl⟩
            have HN := Aside0.mk (⟨HS.out.1.next hHw, hC9, by rw [hyh, HBIT.out, if_pos rfl], hz9, hg9⟩ : ChSt wb g6 (g6 + 2) s now v _ w9 ∧ C9 = cH y ∧ y.h = (if bitI s m = 1 then nodeD o now else nodeD now o) ∧ w9.heap[b9]? = some (.cells C9 91 (0, 0)) ∧ Gd (g6 + 2) w9 y)
            have HNX := Aside0.mk hnx
            have HK2 := Aside0.mk (show upL s (p.drop m) m base = nx ∧ baseL e l ++ chL s (p.drop m) m base = baseL e l ++ chL s (p.drop (m + 1)) (m + 1) base ++ [if bitI s m = 1 then nodeD o now else nodeD now o] by rw [HKS.out.1, HKS.out.2, ← HN.out.2.2.1, HNX.out, List.append_assoc]; exact ⟨rfl, rfl⟩)
            have HLD9 := Aside0.mk (show ∀ W, Below w9.heap.size w9 W → (loadVar 91 ⟨b9, 0, none⟩).run Tryd.prog W = .ok (.agg C9) W from fun W hb => ld_C (w := W) (at_next HN.out.2.2.2.1 hb) y HN.out.2.1)
            clear hw9 hz9 hg9 hHw hHeld hu9 o9 z9 hHu hC9 hyh hgu hbu hnx HBIT HT
            go_wp2_with (first
              | ((with_reducible refine gate_dst (N := 55) rfl ?_); (refine wpList_loadv rfl 91 _ rfl _ rfl _ (HLD9.out w9 (Below.refl _ _)) ?_))
              | ((with_reducible refine gate_dst (N := 56) rfl ?_); (refine bs1_H rfl _ rfl y (by rw [← HN.out.2.1]; rfl) ?_))
              | ((with_reducible refine gate_dst (N := 57) rfl ?_); (refine app_H (wa := wb) rfl (.tmp 54) (.tmp 56) rfl v (baseL e l ++ chL s (p.drop (m + 1)) (m + 1) base) y rfl rfl wb.heap.size (g6 + 2) HN.out.1.row HN.out.2.2.2.2 HN.out.1.below HN.out.1.below.size (by have := HKL.out; omega) ?_); intro v1 wa hva hba hka hza hoa; rw [HN.out.2.2.1] at hva; have st := HN.out.1.app hva hba hka hza; have ha9 := (hoa b9 (Array.getElem?_eq_some_iff.1 HN.out.2.2.2.1).1 (fun e => absurd (Hrow.own HS.out.1.row e.symm) (by have := HB9.out; omega))).trans HN.out.2.2.2.1; have HA := Aside0.mk (⟨st, ld_C ha9 y HN.out.2.1, HN.out.2.2.2.2.keep (Kp.mono hka)⟩ : ChSt wb g6 (g6 + 2) s _ v1 _ wa ∧ (loadVar 91 ⟨b9, 0, none⟩).run Tryd.prog wa = .ok (.agg C9) wa ∧ Gd (g6 + 2) wa y); clear hva hba hka hza hoa st ha9)
              | ((with_reducible refine gate_dst (N := 58) rfl ?_); (refine wpList_loadv rfl 91 _ rfl _ rfl _ HA.out.2.1 ?_))
              | (go_at_call 48; (with_reducible refine (sumG_calls HN.out.2.1 wa HA.out.2.2 nx HNX.out).mono ?_); rintro e w8 ⟨rfl, hb8⟩; have H8 := Aside0.mk (HA.out.1.next hb8); clear hb8)
              | ((with_reducible refine gate_store (t := 27) (p := 6) rfl ?_); (refine wpList_store_row rfl 27 (.tmp 6) (.tmp 59) rfl g6 (cS nx) rfl rfl 27 (cS _) H8.out.h6 (by rw [cS_size]; kernel_rfl) (by rw [cS_size, cS_size]) (encI_one _) ?_)))
            exact ⟨⟨m, v1, rfl, rfl, by omega, by rw [HK2.out.1, HK2.out.2]; exact ⟨H8.out.set nx⟩⟩, by simp [intOf]⟩
  · have heb : (e != 0) = true := by simp [he]
    have hcl := HCC.out wy (at_next HB.out.1 hst.below)
    have hx := hcl.2.1
    have hx2 := hcl.1
    have HS3 := Aside0.mk (⟨hst, hcl.2.2, by rw [baseL, if_neg he], by rw [← HBA.out, baseS, if_neg he]; rfl⟩ : ChSt wb g6 (g6 + 2) s zS v0 [] wy ∧ _ ∧ baseL e l = [leafD l] ∧ base = sumD (leafD l))
    clear he hst hcl
    refine unpause_ ?_
    go_wp2_with (first
      | ((with_reducible refine gate_dst (N := 20) rfl ?_); (refine wpList_loadv rfl 33 _ rfl _ rfl _ (le_L HS3.out.2.1 (Below.refl _ _) 0) ?_))
      | (go_at_call 51; (refine (leafX_calls l hl1 (g6 + 2) wy HS3.out.1.lt.2.2).mono ?_); rintro e w3 ⟨x3, C3, hC3, hx3, rfl, hg3, hb3⟩; have H3 := Aside0.mk (⟨HS3.out.1.next hb3, hC3, hx3, hg3⟩ : ChSt wb g6 (g6 + 2) s zS v0 [] w3 ∧ C3 = cH x3 ∧ x3.h = leafD l ∧ Gd (g6 + 2) w3 x3); clear hC3 hx3 hg3 hb3)
      | ((with_reducible refine gate_dst (N := 22) rfl ?_); (refine bs1_H rfl _ rfl x3 (by rw [← H3.out.2.1]; rfl) ?_))
      | ((with_reducible refine gate_dst (N := 23) rfl ?_); (refine app_H (wa := wb) rfl (.tmp 18) (.tmp 22) rfl v0 [] x3 rfl rfl wb.heap.size (g6 + 2) H3.out.1.row H3.out.2.2.2 H3.out.1.below H3.out.1.below.size (by simp) ?_); intro v1 wa hva hba hka hza hoa; rw [List.nil_append, H3.out.2.2.1, ← HS3.out.2.2.1] at hva; have st := H3.out.1.app hva hba hka hza; (obtain ⟨A1, c1, ev1, hrd1⟩ := hva.rd); rw [show (baseL e l).length = 1 by rw [HS3.out.2.2.1]; rfl] at ev1; subst ev1; (obtain ⟨ad1, x1, e1, hx1, hat1, ht1, hf1, hr1⟩ := hrd1.at 0 (by rw [HS3.out.2.2.1]; exact Nat.zero_lt_one)); subst e1; (obtain ⟨C1, hC1⟩ : ∃ C, C = cH x1 := ⟨_, rfl⟩); have hld1 := le_H hat1 (Below.refl _ _) 0; rw [← hC1] at hld1; have HA := Aside0.mk (⟨st, hld1, hC1, ht1, hf1, hr1, by rw [HS3.out.2.2.2, ← hx1, HS3.out.2.2.1]; rfl⟩ : ChSt wb g6 (g6 + 2) s _ (.slice (some ad1) 1 c1) _ wa ∧ (loadVar 91 (ad1.add (0 * 2))).run Tryd.prog wa = .ok (.agg C1) wa ∧ C1 = cH x1 ∧ _ ∧ _ ∧ _ ∧ sumD x1.h = base); clear hva hba hka hza hoa st hrd1 hx1 hat1 ht1 hf1 hr1 hC1 hld1)
      | ((with_reducible refine gate_dst (N := 26) rfl ?_); go_loud (refine wpList_loadv rfl 91 _ rfl _ rfl _ HA.out.2.1 ?_))
      | (go_at_call 48; (with_reducible refine (sumX_calls HA.out.2.2.1 HA.out.2.2.2.1 HA.out.2.2.2.2.1 wa HA.out.2.2.2.2.2.1 base HA.out.2.2.2.2.2.2).mono ?_); rintro e w4 ⟨rfl, hb4⟩; have H4 := Aside0.mk (HA.out.1.next hb4); clear hb4)
      | ((with_reducible refine gate_store (t := 27) (p := 6) rfl ?_); (refine wpList_store_row rfl 27 (.tmp 6) (.tmp 27) rfl g6 (cS base) rfl rfl 27 (cS zS) H4.out.h6 (by rw [cS_size]; kernel_rfl) (by rw [cS_size, cS_size]) (encI_one _) ?_); have HST := Aside0.mk (H4.out.set base); have hx5 := (HCC.out _ (at_next HB.out.1 HST.out.below)).1))
    try rw [heb]
    clear heb hx hx2 hx5
    go_loopw [5, 8] (fun v i wr => ∃ (n : Nat) (v' : Value), v' = v ∧ i = .int .i64 ((n : Int) - 1) ∧ n ≤ p.length ∧ Aside0 (ChSt wb g6 (g6 + 2) s (upL s (p.drop n) n base) v' (baseL e l ++ chL s (p.drop n) n base) wr)) (fun _ i _ => (intOf i + 1).toNat)
    case atStart => exact ⟨p.length, _, rfl, by simp, by omega, by rw [List.drop_length, upL, chL, List.append_nil]; exact HST⟩
    case round =>
      clear HST HTK HSZ HWX HWY HG6 H2 H1
      obtain ⟨n, v, rfl, rfl, hn, HS0⟩ := hrel
      obtain ⟨Av, cv, ev, hrd⟩ := HS0.out.row.rd
      rcases Nat.eq_zero_or_pos n with hn0 | hn0
      · subst hn0
        have hch : baseL e l ++ chL s (p.drop 0) 0 base = chainOf k p e l := by rw [List.drop_zero, chainOf, HK.out, HBA.out]
        rw [hch] at ev hrd
        subst ev
        have HQ := Aside0.mk (And.intro hrd (HB.out.2.1.trans (HS0.out.below.mono HB.out.2.1.size)))
        clear hrd hch HS0
        go_wp2
        go_ret
        exact ⟨Av, cv, rfl, HQ.out⟩
      · obtain ⟨m, rfl⟩ : ∃ m, n = m + 1 := ⟨n - 1, by omega⟩
        rw [show (((m + 1 : Nat) : Int) - 1) = (m : Int) by omega]
        have c5b : (m : Int) < (p.length : Int) := by omega
        have c5c := eq_true c5b
        have c5d : ((0 : Int) ≤ (m : Int)) = True := eq_true (by omega)
        obtain ⟨now, hnow⟩ : ∃ x, upL s (p.drop (m + 1)) (m + 1) base = x := ⟨_, rfl⟩
        obtain ⟨o, ho⟩ : ∃ x, p.getD m zS = x := ⟨_, rfl⟩
        have hst := HS0.out
        rw [hnow] at hst
        obtain ⟨ad, eA, hat⟩ := at_flat HB.out.2.2 zS (m : Int) (by omega) c5b
        rw [show ((m : Int).toNat) = m by omega, ho] at hat
        subst eA
        have hk1' := chL_step s p m (by omega) base
        have hk2' := up_step s p m (by omega) base
        rw [ho, hnow] at hk1' hk2'
        have HS := Aside0.mk (⟨hst, hat, ev⟩ : ChSt wb g6 (g6 + 2) s now v _ wr ∧ _ ∧ _)
        have HKS := Aside0.mk (And.intro hk1' hk2')
        have HKL := Aside0.mk (show (baseL e l ++ chL s (p.drop (m + 1)) (m + 1) base).length ≤ 1000 by
          rw [List.length_append, chL_len, List.length_drop, baseL]
          split <;> simp <;> omega)
        clear hst hat hk1' hk2' hnow ho HS0 hrd ev
        have hcx := (HCC.out wr (at_next HB.out.1 HS.out.1.below)).1
        go_wp2
        refine start_ (n := 9) (S := fun w' => Below wr.heap.size wr w') (ds := []) #[false, false, false, false, false, false, false, false, false] (by kernel_rfl) rfl rfl (Below.refl _ _).drew (fun hHeld => ?_)
        refine take_ (i := 0) (N := some 36) (v := .agg (cS now)) (a' := ?_) #[true, false, false, false, false, false, false, false, false] rfl rfl (by kernel_rfl) (fun _ _ _ h => h) (Or.inl ⟨by rfl, fun w' hS => yield_load _ _ rfl _ rfl (ld_S (HS.out.1.next hS).h6 0)⟩) hHeld ?_ ?_
        rotate_left
        · simp only [Act.put, List.setIfInBounds_toArray, List.set_cons_zero, List.set_cons_succ, i64_w, i32_w]
          rfl
        refine pure_ (i := 1) (N := some 37) (v := ?_) (a' := ?_) #[true, true, false, false, false, false, false, false, false] rfl rfl (by kernel_rfl) (fun _ _ _ h => h) (Or.inl ⟨by rfl, ?_⟩) ?_ ?_
        rotate_left
        · intro w'
          go_simp
          with_reducible rfl
        rotate_left
        · simp only [Act.put, List.setIfInBounds_toArray, List.set_cons_zero, List.set_cons_succ, i64_w, i32_w]
          rfl
        refine take_ (i := 2) (N := some 38) (v := ?_) (a' := ?_) #[true, true, true, false, false, false, false, false, false] rfl rfl (by kernel_rfl) (fun _ _ _ h => h) (Or.inl ⟨by rfl, ?_⟩) hHeld ?_ ?_
        rotate_left
        · intro w' hS
          have hx := (HCC.out w' (at_next HB.out.1 (HS.out.1.next hS).below)).1
          go_simp
          with_reducible rfl
        rotate_left
        · simp only [Act.put, List.setIfInBounds_toArray, List.set_cons_zero, List.set_cons_succ, i64_w, i32_w]
          rfl
        refine pure_ (i := 3) (N := some 39) (v := ?_) (a' := ?_) #[true, true, true, true, false, false, false, false, false] rfl rfl (by kernel_rfl) (fun _ _ _ h => h) (Or.inl ⟨by rfl, ?_⟩) ?_ ?_
        rotate_left
        · intro w'
          go_simp
          with_reducible rfl
        rotate_left
        · simp only [Act.put, List.setIfInBounds_toArray, List.set_cons_zero, List.set_cons_succ, i64_w, i32_w]
          rfl
        refine pure_ (i := 4) (N := some 40) (v := ?_) (a' := ?_) #[true, true, true, true, true, false, false, false, false] rfl rfl (by kernel_rfl) (fun _ _ _ h => h) (Or.inl ⟨by rfl, ?_⟩) ?_ ?_
        rotate_left
        · intro w'
          go_simp
          with_reducible rfl
        rotate_left
        · simp only [Act.put, List.setIfInBounds_toArray, List.set_cons_zero, List.set_cons_succ, i64_w, i32_w]
          rfl
        refine take_ (i := 5) (N := some 41) (v := .agg (cS o)) (a' := ?_) #[true, true, true, true, true, true, false, false, false] rfl rfl (by kernel_rfl) (fun _ _ _ h => h) (Or.inl ⟨by rfl, fun w' hS => yield_load _ _ rfl _ rfl (le_S HS.out.2.1 (HS.out.1.next hS).below 0)⟩) hHeld ?_ ?_
        rotate_left
        · simp only [Act.put, List.setIfInBounds_toArray, List.set_cons_zero, List.set_cons_succ, i64_w, i32_w]
          rfl
        refine makers3_ (n := 8) (f := 2) (fe := 1) #[true, true, true, true, true, true, false, false, false] #[true, true, true, true, true, true, true, true, false] (by kernel_rfl) [36, 37, 38, 39, 40, 41, 42, 9] (by kernel_rfl) (by kernel_rfl) rfl (nodF now o (g6 + 2) wr.drew.heap.size) (fun _ => false) (fun _ h => below_tr hHeld h hHeld.size) (nodF_mono _ _ _ _) ?hstep ?hend
        case hstep =>
          intro i o' hi hu ho' vs w2 hv hb2 hd K hK
          have h0 : vs 0 = .agg (cS now) := hv 0 (by decide) (by decide)
          have h5 : vs 5 = .agg (cS o) := hv 5 (by decide) (by decide)
          have hsz : g6 + 2 ≤ w2.heap.size := Nat.le_trans HS.out.1.lt.2.2 (below_tr hHeld hb2 hHeld.size).size
          simp only [fil2, List.zipIdx_cons, List.zipIdx_nil, List.foldl_cons, List.foldl_nil, List.setIfInBounds_toArray, List.set_cons_zero, List.set_cons_succ, Nat.zero_add, Nat.reduceAdd] at hK ⊢
          match i, hi, hu, ho', hK, hd with
          | 6, _, _, ho', hK, hd =>
            obtain rfl : _ = o' := Option.some.inj ho'
            refine gr_go Tryd.func52 (by kernel_rfl) rfl #[.agg (cS now), .agg (cS o)] rfl (by simp only [List.map_toArray, List.map_cons, List.map_nil]; rw [← h0, ← h5]; rfl) ?_
            refine (nodeX_calls now o (g6 + 2) w2 hsz).mono ?_
            rintro e w3 ⟨x, C, hC, hx, rfl, hg, hb3⟩
            exact ⟨_, rfl, hK _ _ ⟨x, C, rfl, hC, hx, hg⟩ hb3 (fun h => by cases h)⟩
          | 7, _, _, ho', hK, hd =>
            obtain rfl : _ = o' := Option.some.inj ho'
            exact gr_alloc 91 (.agg (cH zX)) rfl zero91 (hK _ _ ⟨_, rfl, hb2.size, h_new rfl⟩ (below_alloc (Below.refl _ _) _) (fun h => by cases h))
          | 0, _, hu, _, _, _ => exact absurd hu (by decide)
          | 1, _, hu, _, _, _ => exact absurd hu (by decide)
          | 2, _, hu, _, _, _ => exact absurd hu (by decide)
          | 3, _, hu, _, _, _ => exact absurd hu (by decide)
          | 4, _, hu, _, _, _ => exact absurd hu (by decide)
          | 5, _, hu, _, _, _ => exact absurd hu (by decide)
          | _ + 8, hi, _, _, _, _ => exact absurd hi (by omega)
        case hend =>
          intro vs w6 hv hb6 hF hD
          simp only [fil2, List.zipIdx_cons, List.zipIdx_nil, List.foldl_cons, List.foldl_nil, List.setIfInBounds_toArray, List.set_cons_zero, List.set_cons_succ, Nat.zero_add, Nat.reduceAdd]
          obtain ⟨x, C8, f6, hC8, hxh, hg8⟩ : ∃ x C, vs 6 = .agg C ∧ C = cH x ∧ x.h = nodeD now o ∧ Gd (g6 + 2) w6 x := hF 6 (by decide) rfl
          obtain ⟨b9, f7, B9, h9⟩ : ∃ k, vs 7 = .pointer (some ⟨k, 0, none⟩) ∧ wr.drew.heap.size ≤ k ∧ w6.heap[k]? = some (.cells (cH zX) 91 (0, 0)) := hF 7 (by decide) rfl
          rw [f6, f7]
          have hHeld := below_tr hHeld hb6 hHeld.size
          have B9 : wr.heap.size ≤ b9 := B9
          have HB9 := Aside0.mk B9
          clear f6 f7 hF hD hv hb6
          generalize vs 0 = v0
          generalize vs 1 = v1
          generalize vs 2 = v2
          generalize vs 3 = v3
          generalize vs 4 = v4
          generalize vs 5 = v5
          have o8 : C8.all (·.oneCell') = true := by rw [hC8]; exact oneX x
          have z8 : C8.size = 2 := by rw [hC8]; rfl
          refine one_ (i := 8) (N := none) #[true, true, true, true, true, true, true, true, true] rfl rfl (by kernel_rfl) (by decide) (fun K hK => ?_)
          refine st_row (by rfl) rfl 91 (.tmp 9) (.tmp 42) rfl b9 C8 rfl rfl 91 (cH zX) h9 (by rw [z8]; kernel_rfl) (by rw [z8]; rfl) o8 ?_
          refine hK.out _ _ (below_setRow hHeld B9) (fun hHeld => ?_)
          clear hK K
          refine done_ (by kernel_rfl) ?_
          obtain ⟨wz, hwz⟩ : ∃ W, w6.setRow b9 C8 = W := ⟨_, rfl⟩
          have hz9 : wz.heap[b9]? = some (.cells C8 91 (0, 0)) := by rw [← hwz]; exact setRow_heap _ _ _ _ _ _ h9
          have hgz : Gd (g6 + 2) wz x := by rw [← hwz]; exact hg8.keep (Kp.row h9)
          rw [hwz] at hHeld ⊢
          have HZ := Aside0.mk (⟨HS.out.1.next hHeld, hC8, hxh, hz9, hgz, hHeld⟩ : ChSt wb g6 (g6 + 2) s now v _ wz ∧ C8 = cH x ∧ x.h = nodeD now o ∧ _ ∧ Gd (g6 + 2) wz x ∧ Below wr.heap.size wr wz)
          clear hwz hz9 hgz hHeld h9 B9 hC8 hxh hg8 o8 z8
          rcases bitI_01 s m with hbit | hbit
          · have HBIT := Aside0.mk hbit
            have HNX := Aside0.mk (show sumD x.h = sumD (if bitI s m = 1 then nodeD o now else nodeD now o) by rw [HZ.out.2.2.1, HBIT.out, if_neg (by decide)])
            clear hbit
            go_wp2_with (first
              | ((with_reducible refine gate_dst (N := 43) rfl ?_); (refine wpList_loadv rfl 27 _ rfl _ rfl _ (ld_S HZ.out.1.h7 0) ?_))
              | (go_at_call 45; (refine (bit4_calls s m (by omega) wz).mono ?_); rw [HBIT.out]; rintro e w9 ⟨rfl, hb9⟩; have H9 := Aside0.mk hb9; clear hb9; (obtain ⟨C9, e9⟩ : ∃ C, C = C8 := ⟨_, rfl⟩); (obtain ⟨y, ey⟩ : ∃ y, y = x := ⟨_, rfl⟩); (obtain ⟨nx, hnx⟩ : ∃ nx, sumD x.h = nx := ⟨_, rfl⟩); have HN := Aside0.mk (⟨HZ.out.1.next H9.out, by rw [e9, ey]; exact HZ.out.2.1, by rw [ey, HZ.out.2.2.1, HBIT.out, if_neg (by decide)], by rw [e9]; exact at_next HZ.out.2.2.2.1 H9.out, by rw [ey]; exact HZ.out.2.2.2.2.1.below H9.out⟩ : ChSt wb g6 (g6 + 2) s now v _ w9 ∧ C9 = cH y ∧ y.h = (if bitI s m = 1 then nodeD o now else nodeD now o) ∧ w9.heap[b9]? = some (.cells C9 91 (0, 0)) ∧ Gd (g6 + 2) w9 y); have HNX := Aside0.mk (show sumD y.h = nx by rw [ey]; exact hnx); have HK2 := Aside0.mk (show upL s (p.drop m) m base = nx ∧ baseL e l ++ chL s (p.drop m) m base = baseL e l ++ chL s (p.drop (m + 1)) (m + 1) base ++ [if bitI s m = 1 then nodeD o now else nodeD now o] by rw [HKS.out.1, HKS.out.2, ← HN.out.2.2.1, HNX.out, List.append_assoc]; exact ⟨rfl, rfl⟩); clear e9 ey hnx HBIT; have HLD9 := Aside0.mk (show ∀ W, Below w9.heap.size w9 W → (loadVar 91 ⟨b9, 0, none⟩).run Tryd.prog W = .ok (.agg C9) W from fun W hb => ld_C (w := W) (at_next HN.out.2.2.2.1 hb) y HN.out.2.1))
              | ((with_reducible refine gate_dst (N := 55) rfl ?_); (refine wpList_loadv rfl 91 _ rfl _ rfl _ (HLD9.out w9 (Below.refl _ _)) ?_))
              | ((with_reducible refine gate_dst (N := 56) rfl ?_); (refine bs1_H rfl _ rfl y (by rw [← HN.out.2.1]; rfl) ?_))
              | ((with_reducible refine gate_dst (N := 57) rfl ?_); (refine app_H (wa := wb) rfl (.tmp 54) (.tmp 56) rfl v (baseL e l ++ chL s (p.drop (m + 1)) (m + 1) base) y rfl rfl wb.heap.size (g6 + 2) HN.out.1.row HN.out.2.2.2.2 HN.out.1.below HN.out.1.below.size (by have := HKL.out; omega) ?_); intro v1 wa hva hba hka hza hoa; rw [HN.out.2.2.1] at hva; have st := HN.out.1.app hva hba hka hza; have ha9 := (hoa b9 (Array.getElem?_eq_some_iff.1 HN.out.2.2.2.1).1 (fun e => absurd (Hrow.own HS.out.1.row e.symm) (by have := HB9.out; omega))).trans HN.out.2.2.2.1; have HA := Aside0.mk (⟨st, ld_C ha9 y HN.out.2.1, HN.out.2.2.2.2.keep (Kp.mono hka)⟩ : ChSt wb g6 (g6 + 2) s _ v1 _ wa ∧ (loadVar 91 ⟨b9, 0, none⟩).run Tryd.prog wa = .ok (.agg C9) wa ∧ Gd (g6 + 2) wa y); clear hva hba hka hza hoa st ha9)
              | ((with_reducible refine gate_dst (N := 58) rfl ?_); (refine wpList_loadv rfl 91 _ rfl _ rfl _ HA.out.2.1 ?_))
              | (go_at_call 48; (with_reducible refine (sumG_calls HN.out.2.1 wa HA.out.2.2 nx HNX.out).mono ?_); rintro e w8 ⟨rfl, hb8⟩; have H8 := Aside0.mk (HA.out.1.next hb8); clear hb8)
              | ((with_reducible refine gate_store (t := 27) (p := 6) rfl ?_); (refine wpList_store_row rfl 27 (.tmp 6) (.tmp 59) rfl g6 (cS nx) rfl rfl 27 (cS _) H8.out.h6 (by rw [cS_size]; kernel_rfl) (by rw [cS_size, cS_size]) (encI_one _) ?_)))
            exact ⟨⟨m, v1, rfl, rfl, by omega, by rw [HK2.out.1, HK2.out.2]; exact ⟨H8.out.set nx⟩⟩, by simp [intOf]⟩
          · have HBIT := Aside0.mk hbit
            clear hbit
            have hcz := (HCC.out wz (at_next HB.out.1 HZ.out.1.below)).1
            go_wp2_with (first
              | ((with_reducible refine gate_dst (N := 43) rfl ?_); (refine wpList_loadv rfl 27 _ rfl _ rfl _ (ld_S HZ.out.1.h7 0) ?_))
              | (go_at_call 45; (refine (bit4_calls s m (by omega) wz).mono ?_); rw [HBIT.out]; rintro e wt ⟨rfl, hbt⟩; have HT := Aside0.mk (⟨HZ.out.1.next hbt, at_next HZ.out.2.2.2.1 hbt, below_tr HZ.out.2.2.2.2.2 hbt HZ.out.2.2.2.2.2.size⟩ : ChSt wb g6 (g6 + 2) s now v _ wt ∧ _ ∧ _); clear hbt hcz))
            refine start_ (n := 8) (S := fun w' => Below wt.heap.size wt w') (ds := [7]) #[false, false, false, false, false, false, false, false] (by kernel_rfl) rfl rfl (Below.refl _ _).drew (fun hHeld => ?_)
            refine pure_ (i := 0) (N := some 47) (v := ?_) (a' := ?_) #[true, false, false, false, false, false, false, false] rfl rfl (by kernel_rfl) (fun _ _ _ h => h) (Or.inl ⟨by rfl, ?_⟩) ?_ ?_
            rotate_left
            · intro w'
              go_simp
              with_reducible rfl
            rotate_left
            · simp only [Act.put, List.setIfInBounds_toArray, List.set_cons_zero, List.set_cons_succ, i64_w, i32_w]
              rfl
            refine take_ (i := 1) (N := some 48) (v := ?_) (a' := ?_) #[true, true, false, false, false, false, false, false] rfl rfl (by kernel_rfl) (fun _ _ _ h => h) (Or.inl ⟨by rfl, ?_⟩) hHeld ?_ ?_
            rotate_left
            · intro w' hS
              have hx := (HCC.out w' (at_next HB.out.1 (HT.out.1.next hS).below)).1
              go_simp
              with_reducible rfl
            rotate_left
            · simp only [Act.put, List.setIfInBounds_toArray, List.set_cons_zero, List.set_cons_succ, i64_w, i32_w]
              rfl
            refine pure_ (i := 2) (N := some 49) (v := ?_) (a' := ?_) #[true, true, true, false, false, false, false, false] rfl rfl (by kernel_rfl) (fun _ _ _ h => h) (Or.inl ⟨by rfl, ?_⟩) ?_ ?_
            rotate_left
            · intro w'
              go_simp
              with_reducible rfl
            rotate_left
            · simp only [Act.put, List.setIfInBounds_toArray, List.set_cons_zero, List.set_cons_succ, i64_w, i32_w]
              rfl
            refine pure_ (i := 3) (N := some 50) (v := ?_) (a' := ?_) #[true, true, true, true, false, false, false, false] rfl rfl (by kernel_rfl) (fun _ _ _ h => h) (Or.inl ⟨by rfl, ?_⟩) ?_ ?_
            rotate_left
            · intro w'
              go_simp
              with_reducible rfl
            rotate_left
            · simp only [Act.put, List.setIfInBounds_toArray, List.set_cons_zero, List.set_cons_succ, i64_w, i32_w]
              rfl
            refine take_ (i := 4) (N := some 51) (v := .agg (cS o)) (a' := ?_) #[true, true, true, true, true, false, false, false] rfl rfl (by kernel_rfl) (fun _ _ _ h => h) (Or.inl ⟨by rfl, fun w' hS => yield_load _ _ rfl _ rfl (le_S HS.out.2.1 (HT.out.1.next hS).below 0)⟩) hHeld ?_ ?_
            rotate_left
            · simp only [Act.put, List.setIfInBounds_toArray, List.set_cons_zero, List.set_cons_succ, i64_w, i32_w]
              rfl
            refine take_ (i := 5) (N := some 52) (v := .agg (cS now)) (a' := ?_) #[true, true, true, true, true, true, false, false] rfl rfl (by kernel_rfl) (fun _ _ _ h => h) (Or.inl ⟨by rfl, fun w' hS => yield_load _ _ rfl _ rfl (ld_S (HT.out.1.next hS).h6 0)⟩) hHeld ?_ ?_
            rotate_left
            · simp only [Act.put, List.setIfInBounds_toArray, List.set_cons_zero, List.set_cons_succ, i64_w, i32_w]
              rfl
            refine one_ (i := 6) (N := some 53) #[true, true, true, true, true, true, true, false] rfl rfl (by kernel_rfl) (by decide) (fun K hK => ?_)
            refine goes_ Tryd.func52 (by kernel_rfl) rfl #[.agg (cS o), .agg (cS now)] (by rfl) rfl rfl (by simp only [List.map_toArray, List.map_cons, List.map_nil]; rfl) ?_
            refine (nodeX_calls o now (g6 + 2) _ (HT.out.1.next hHeld).lt.2.2).mono ?_
            rintro e wu ⟨y, C9, hC9, hyh, rfl, hgu, hbu⟩
            refine ⟨_, rfl, ?_⟩
            have hHu := below_tr hHeld hbu hHeld.size
            refine hK.out _ _ (below_tr hHeld hbu hHeld.size) (fun hHeld => ?_)
            clear hK K
            refine norm_ (a' := ?_) ?_ ?_
            rotate_left
            · show Act.put _ (some 53) _ = _
              simp only [Act.put, List.setIfInBounds_toArray, List.set_cons_zero, List.set_cons_succ, i64_w, i32_w]
              rfl
            have o9 : C9.all (·.oneCell') = true := by rw [hC9]; exact oneX y
            have z9 : C9.size = 2 := by rw [hC9]; rfl
            have hu9 := at_next HT.out.2.1 hHu
            have hb9t : wr.heap.size ≤ b9 := HB9.out
            refine last_ (i := 7) (N := none) #[true, true, true, true, true, true, true, true] rfl rfl (by kernel_rfl) (by decide) (fun K hK => ?_)
            refine st_row (by rfl) rfl 91 (.tmp 9) (.tmp 53) rfl b9 C9 rfl rfl 91 C8 hu9 (by rw [z9]; kernel_rfl) (by rw [z9, HZ.out.2.1]; rfl) o9 ?_
            have hHw := below_setRow (cs := C9) (below_tr HT.out.2.2 hHu HT.out.2.2.size) HB9.out
            refine hK.out _ _ ?_
            clear hK K
            refine done_ (by kernel_rfl) ?_
            obtain ⟨w9, hw9⟩ : ∃ W, wu.setRow b9 C9 = W := ⟨_, rfl⟩
            have hz9 : w9.heap[b9]? = some (.cells C9 91 (0, 0)) := by rw [← hw9]; exact setRow_heap _ _ _ _ _ _ hu9
            have hg9 : Gd (g6 + 2) w9 y := by rw [← hw9]; exact hgu.keep (Kp.row hu9)
            rw [hw9] at hHw ⊢
            obtain ⟨nx, hnx⟩ : ∃ nx, sumD y.h = nx := ⟨_, rfl⟩
            have HN := Aside0.mk (⟨HS.out.1.next hHw, hC9, by rw [hyh, HBIT.out, if_pos rfl], hz9, hg9⟩ : ChSt wb g6 (g6 + 2) s now v _ w9 ∧ C9 = cH y ∧ y.h = (if bitI s m = 1 then nodeD o now else nodeD now o) ∧ w9.heap[b9]? = some (.cells C9 91 (0, 0)) ∧ Gd (g6 + 2) w9 y)
            have HNX := Aside0.mk hnx
            have HK2 := Aside0.mk (show upL s (p.drop m) m base = nx ∧ baseL e l ++ chL s (p.drop m) m base = baseL e l ++ chL s (p.drop (m + 1)) (m + 1) base ++ [if bitI s m = 1 then nodeD o now else nodeD now o] by rw [HKS.out.1, HKS.out.2, ← HN.out.2.2.1, HNX.out, List.append_assoc]; exact ⟨rfl, rfl⟩)
            have HLD9 := Aside0.mk (show ∀ W, Below w9.heap.size w9 W → (loadVar 91 ⟨b9, 0, none⟩).run Tryd.prog W = .ok (.agg C9) W from fun W hb => ld_C (w := W) (at_next HN.out.2.2.2.1 hb) y HN.out.2.1)
            clear hw9 hz9 hg9 hHw hHeld hu9 o9 z9 hHu hC9 hyh hgu hbu hnx HBIT HT
            go_wp2_with (first
              | ((with_reducible refine gate_dst (N := 55) rfl ?_); (refine wpList_loadv rfl 91 _ rfl _ rfl _ (HLD9.out w9 (Below.refl _ _)) ?_))
              | ((with_reducible refine gate_dst (N := 56) rfl ?_); (refine bs1_H rfl _ rfl y (by rw [← HN.out.2.1]; rfl) ?_))
              | ((with_reducible refine gate_dst (N := 57) rfl ?_); (refine app_H (wa := wb) rfl (.tmp 54) (.tmp 56) rfl v (baseL e l ++ chL s (p.drop (m + 1)) (m + 1) base) y rfl rfl wb.heap.size (g6 + 2) HN.out.1.row HN.out.2.2.2.2 HN.out.1.below HN.out.1.below.size (by have := HKL.out; omega) ?_); intro v1 wa hva hba hka hza hoa; rw [HN.out.2.2.1] at hva; have st := HN.out.1.app hva hba hka hza; have ha9 := (hoa b9 (Array.getElem?_eq_some_iff.1 HN.out.2.2.2.1).1 (fun e => absurd (Hrow.own HS.out.1.row e.symm) (by have := HB9.out; omega))).trans HN.out.2.2.2.1; have HA := Aside0.mk (⟨st, ld_C ha9 y HN.out.2.1, HN.out.2.2.2.2.keep (Kp.mono hka)⟩ : ChSt wb g6 (g6 + 2) s _ v1 _ wa ∧ (loadVar 91 ⟨b9, 0, none⟩).run Tryd.prog wa = .ok (.agg C9) wa ∧ Gd (g6 + 2) wa y); clear hva hba hka hza hoa st ha9)
              | ((with_reducible refine gate_dst (N := 58) rfl ?_); (refine wpList_loadv rfl 91 _ rfl _ rfl _ HA.out.2.1 ?_))
              | (go_at_call 48; (with_reducible refine (sumG_calls HN.out.2.1 wa HA.out.2.2 nx HNX.out).mono ?_); rintro e w8 ⟨rfl, hb8⟩; have H8 := Aside0.mk (HA.out.1.next hb8); clear hb8)
              | ((with_reducible refine gate_store (t := 27) (p := 6) rfl ?_); (refine wpList_store_row rfl 27 (.tmp 6) (.tmp 59) rfl g6 (cS nx) rfl rfl 27 (cS _) H8.out.h6 (by rw [cS_size]; kernel_rfl) (by rw [cS_size, cS_size]) (encI_one _) ?_)))
            exact ⟨⟨m, v1, rfl, rfl, by omega, by rw [HK2.out.1, HK2.out.2]; exact ⟨H8.out.set nx⟩⟩, by simp [intOf]⟩
end Go.Proofs.YtanabbjakacgbaaDoor.Sp
namespace Go.Proofs.YtanabbjakacgbaaDoor.Sp
open Go.RowKit Go.Proofs.YtanabbjakacgbaaDoorW.PrintWords Go.Proofs.YtanabbjakacgbaaDoorW.PrintLast Go.Proofs.YtanabbjakacgbaaDoorW.PrintMore Go.Proofs.YtanabbjakacgbaaDoor.PM Go.Proofs.YtanabbjakacgbaaDoor.Grow
set_option linter.unusedVariables false
set_option linter.unusedSimpArgs false
set_option maxRecDepth 100000
structure Pv where
  A : Option Addr
  c : Nat
  q : Pf
def cV (x : Pv) : Array Value := cP (.slice x.A x.q.p.length x.c) x.q.e x.q.l
theorem cV_size (x : Pv) : (cV x).size = 35 := cP_size _ _ _
theorem cV_one (x : Pv) : ∀ u ∈ (cV x).toList, u.oneCell' = true := cP_one rfl _ _
structure Gp (w : World) (x : Pv) : Prop where
  C : kS.C w x.A x.q.p.length x.q.p
  ty : Ty27 w x.A
  len : x.q.p.length ≤ 257
  key : x.q.l.k.size ≤ 100000
theorem Gp.below {w w' : World} {x : Pv} (h : Gp w x) (hb : Below w.heap.size w w') : Gp w' x := ⟨Kd.C_below h.C hb, h.ty.below hb, h.len, h.key⟩
theorem Gp.row {w : World} {x : Pv} {b t : Nat} {fr : Nat × Nat} {cells cs : Array Value} (h : Gp w x) (hb : w.heap[b]? = some (.cells cells t fr)) (ht : t ≠ 27) : Gp (w.setRow b cs) x := by
  obtain ⟨A, c, q⟩ := x
  refine ⟨?_, fun ad e => ?_, h.len, h.key⟩
  · cases A with
    | none => exact ⟨h.C.1, h.C.2.1, fun hn => by obtain ⟨_, e, _⟩ := h.C.2.2 hn; cases e⟩
    | some ad => exact C_keepS h.C (setRow_other _ _ _ _ (h.ty.ne hb ht))
  · obtain rfl : A = some ad := e
    obtain ⟨cells', fr', h1⟩ := h.ty ad rfl
    exact ⟨cells', fr', (setRow_other _ _ _ _ (h.ty.ne hb ht)).trans h1⟩
def cV3 (x y z : Pv) : Array Value := cV x ++ cV y ++ cV z
theorem cV3_size (x y z : Pv) : (cV3 x y z).size = 105 := by rw [cV3, Array.size_append, Array.size_append, cV_size, cV_size, cV_size]
theorem cV3_one (x y z : Pv) : (cV3 x y z).all (·.oneCell') = true := all_one fun u hu => by
  rw [cV3, Array.toList_append, Array.toList_append] at hu
  rcases List.mem_append.1 hu with hu | hu
  · rcases List.mem_append.1 hu with hu | hu
    · exact cV_one _ u hu
    · exact cV_one _ u hu
  · exact cV_one _ u hu
def pick3 (x y z : Pv) (n : Nat) : Pv := if n = 0 then x else if n = 1 then y else z
theorem Gp.pick {w : World} {x y z : Pv} (hx : Gp w x) (hy : Gp w y) (hz : Gp w z) (n : Nat) : Gp w (pick3 x y z n) := by
  unfold pick3
  split
  · exact hx
  · split
    · exact hy
    · exact hz
theorem pick_get (x y z : Pv) (n : Nat) (hn : n < 3) (j : Nat) (u : Value) (h : (cV (pick3 x y z n)).toList[j]? = some u) : (cV3 x y z)[n * 35 + j]? = some u := by
  rw [Array.getElem?_toList] at h
  have hj : j < 35 := by have := (Array.getElem?_eq_some_iff.1 h).1; rwa [cV_size] at this
  have s2 : (cV x ++ cV y).size = 70 := by rw [Array.size_append, cV_size, cV_size]
  rcases n with _ | _ | _ | n
  · rw [cV3, Array.getElem?_append_left (by omega), Array.getElem?_append_left (by rw [cV_size]; omega), Nat.zero_mul, Nat.zero_add]; exact h
  · rw [cV3, Array.getElem?_append_left (by omega), Array.getElem?_append_right (by rw [cV_size]; omega), cV_size, show (0 + 1) * 35 + j - 35 = j by omega]; exact h
  · rw [cV3, Array.getElem?_append_right (by omega), s2, show (0 + 1 + 1) * 35 + j - 70 = j by omega]; exact h
  · omega
theorem ld_V {w : World} {b t : Nat} {fr : Nat × Nat} {x y z : Pv} (hg : w.heap[b]? = some (.cells (cV3 x y z) t fr)) (n : Nat) (hn : n < 3) : (loadVar 36 ⟨b, n * 35, none⟩).run Tryd.prog w = .ok (.agg (cV (pick3 x y z n))) w :=
  run_loadVar_at w _ 36 _ _ (fun j u hj => by
    rw [add_at, cell_of_row w b _ _ t _ hg]
    exact pick_get x y z n hn j u hj) Tryd.underlying36 rfl (by rw [cV_size]; kernel_rfl)
theorem built_V (x y z : Pv) : Tryd.prog.built 42 [(0, .agg (cV x)), (1, .agg (cV y)), (2, .agg (cV z))] = some (cV3 x y z) :=
  fill_three (fun i => some (i * 35, 35)) (.agg (cV x)) (.agg (cV y)) (.agg (cV z)) (cP (.slice none 0 0) 0 zL) (cP (.slice none 0 0) 0 zL) (cP (.slice none 0 0) 0 zL) (by show _ = (cV x).size; rw [cV_size, cP_size]) (by show _ = (cV y).size; rw [cV_size, cP_size]) (by show _ = (cV z).size; rw [cV_size, cP_size])
    (by show some (0 * 35, 35) = some (0, (cV x).size); rw [cV_size]) (by show some (1 * 35, 35) = some ((cV x).size, (cV y).size); rw [cV_size, cV_size]) (by show some (2 * 35, 35) = some ((cV x).size + (cV y).size, (cV z).size); rw [cV_size, cV_size, cV_size])
def zV : Pv := ⟨none, 0, ⟨[], 0, zL⟩⟩
theorem infoV : (Tryd.prog.info? 42).map (fun i => (i.zero, i.size)) = some (some (.agg (cV3 zV zV zV)), 105) := by kernel_rfl
theorem zero42 : ∀ w, (zeroValue 42).run Tryd.prog w = .ok (.agg (cV3 zV zV zV)) w := by
  intro w
  cases hq : Tryd.prog.info? 42 with
  | none => have := infoV; simp [hq] at this
  | some i =>
    have h := infoV
    rw [hq, Option.map_some] at h
    injection h with h
    simp only [Prod.mk.injEq] at h
    simp [zeroValue, typeInfo, hq, h.1, go_sem]
theorem oddV_calls (p : Pf) (q0 q1 q2 q3 : Int) (hq0 : 0 ≤ q0 ∧ q0 < 256) (hq1 : 0 ≤ q1 ∧ q1 < 256) (hq2 : 0 ≤ q2 ∧ q2 < 256) (hq3 : 0 ≤ q3 ∧ q3 < 256) (A : Option Addr) (c : Nat) (C QQ : Array Value) (hC : C = cP (.slice A p.p.length c) p.e p.l) (hQ : QQ = #[.int .u8 q0, .int .u8 q1, .int .u8 q2, .int .u8 q3]) (w : World) (hr : kS.C w A p.p.length p.p) (hlen : p.p.length ≤ 256) (hks : p.l.k.size ≤ 100000) :
    Calls Tryd.prog 16 #[.agg C, .agg QQ] w fun e w' => ∃ x : Pv, e = .returned (.agg (cV x)) ∧ Gp w' x ∧ Below w.heap.size w w' := by
  subst hC hQ
  refine (odd_calls p q0 q1 q2 q3 hq0 hq1 hq2 hq3 A c w hr hlen hks).mono ?_
  rintro e w' ⟨q, A', c', C, rfl, rfl, h1, h0, h2, h3, h4⟩
  exact ⟨⟨A', c', q⟩, rfl, ⟨h1, h0, h2, h3⟩, h4⟩
theorem proveV_calls (l : List Lf) (k : ByteArray) (A : Option Addr) (c : Nat) (w : World) (hr : kL.R 33 w 0 (fun _ => True) (.slice A l.length c) l) (hl : SmL l) (hk1 : k.size ≤ 100000) :
    Calls Tryd.prog 17 #[.slice A l.length c, .string k] w fun e w' => ∃ x : Pv, e = .returned (.agg (cV x)) ∧ Gp w' x ∧ Below w.heap.size w w' := by
  refine (Prove4w_calls l k A c w (R_C hr).2.2 (R_C hr).2.1 hl hk1).mono ?_
  rintro e w' ⟨A', c', rfl, h1, _, h2⟩
  exact ⟨⟨A', c', proveOf l k⟩, rfl, ⟨(R_C h1).2.2, R_ty h1, by have := path_len l k; show (proveOf l k).p.length ≤ 257; omega, prove_sm hl k⟩, h2⟩
theorem checkV_calls (x : Pv) (root : Sm) (k : ByteArray) (hk1 : k.size ≤ 100000) (w : World) (hW : Words w) (hC : kS.C w x.A x.q.p.length x.q.p) (hlen : x.q.p.length ≤ 257) (hkey : x.q.l.k.size ≤ 100000) (q : Ck) (hq : ckOf root k x.q.p x.q.e x.q.l = q) :
    Calls Tryd.prog 13 #[.agg (cS root), .string k, .agg (cV x)] w fun r w' => r = .returned (.agg (cK q)) ∧ Below w.heap.size w w' :=
  CheckP_calls (p := x.q) rfl root k hk1 hkey (by omega) w hW hC q hq
theorem chainV_calls (x : Pv) (k : ByteArray) (hk1 : k.size ≤ 100000) (w : World) (hC : kS.C w x.A x.q.p.length x.q.p) (hlen : x.q.p.length ≤ 256) (hkey : x.q.l.k.size ≤ 100000) (hs : List Hd) (hh : chainOf k x.q.p x.q.e x.q.l = hs) :
    Calls Tryd.prog 19 #[.string k, .agg (cV x)] w fun r w' => ∃ A' c', r = .returned (.slice A' hs.length c') ∧ Hrd w' A' c' hs ∧ Below w.heap.size w w' := by
  subst hh
  exact Chain_calls k hk1 x.A x.q.p x.c hlen x.q.e x.q.l hkey w hC
theorem ck_len {root : Sm} {k : ByteArray} {p : List Sm} {e : Int} {l : Lf} (h : (ckOf root k p e l).o = true) : p.length ≤ 256 := by
  have h1 := (ck_ok h).1
  by_cases hl : 256 < p.length
  · rw [right_long hl] at h1; cases h1
  · omega
end Go.Proofs.YtanabbjakacgbaaDoor.Sp

