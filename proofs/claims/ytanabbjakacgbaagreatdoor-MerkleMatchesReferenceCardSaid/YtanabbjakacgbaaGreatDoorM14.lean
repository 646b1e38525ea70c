/- Put together by this session's program out of: Sn Hf Jr Jc Hh Js Ta. -/
import Derived.Laws.BitsAllLaws
import Derived.Test.YtanabbjakacgbaaGreatDoorM13
namespace Go.Proofs.YtanabbjakacgbaaGreatDoor.Sp
open Go.RowKit Go.Proofs.YtanabbjakacgbaaGreatDoorW.PrintWords Go.Proofs.YtanabbjakacgbaaGreatDoorW.PrintLast Go.Proofs.YtanabbjakacgbaaGreatDoorW.PrintMore Go.Proofs.YtanabbjakacgbaaGreatDoor.PM Go.Proofs.YtanabbjakacgbaaGreatDoor.Grow
set_option linter.unusedVariables false
set_option linter.unusedSimpArgs false
set_option maxRecDepth 100000
attribute [local go_sem] Oper.semAt_some
section
variable {P : Program} {ops : Array Oper} {rest : List Oper} {o : Oper} {a : Act} {w : World} {Q : Exit → Act → World → Prop}
theorem wpList_store_run (hgd : o.guard = none) {ty : TypeId} {x y : Operand} (ho : o.op = .store ty x y) {ad : Addr} {v : Value} (hx : a.eval x = .pointer (some ad)) (hy : a.eval y = v) (W : World)
  (hrun : (storeVar ty ad v).run P w = .ok () W) (h : wpList P ops Q rest (a.put o.dst undef) W) : wpList P ops Q (o :: rest) a w := by
 refine wpList_plain hgd fun K hK => ?_
 unfold Oper.wp
 simp [execOp, ho, hx, hy, Instr.storeAt, Instr.sureAddr, hrun, Result.andThen, Sem.run_bind, Sem.run_map, Sem.run_pure]
 exact hK _ _ h
end
def Paused (p : Prop) : Prop := p
theorem pause_ {p : Prop} (h : Paused p) : p := h
theorem unpause_ {p : Prop} (h : p) : Paused p := h
def Bx (bs : List (Nat × Array Value)) (w : World) : Prop := ∀ x ∈ bs, w.heap[x.1]? = some (.cells x.2 34 (0, 0))
structure RfSt (wB : World) (g8 : Nat) (r : Sm) (bs : List (Nat × Array Value)) (w : World) : Prop where
 below : Below wB.heap.size wB w
 br : w.heap[g8]? = some (.cells (cS r) 30 (0, 0))
 bx : Bx bs w
section
variable {wB w w' : World} {g8 b : Nat} {r : Sm} {bs : List (Nat × Array Value)} {C C' : Array Value} {v : Value} {e : Int} {l : Lf}
theorem RfSt.next (h : RfSt wB g8 r bs w) (hb : Below w.heap.size w w') : RfSt wB g8 r bs w' := ⟨below_tr h.below hb h.below.size, at_next h.br hb, fun x hx => at_next (h.bx x hx) hb⟩
structure Alone (wB : World) (g8 b : Nat) (bs : List (Nat × Array Value)) : Prop where
 new : wB.heap.size ≤ b
 root : g8 ≠ b
 apart : ∀ x ∈ bs, x.1 ≠ b
theorem RfSt.set (h : RfSt wB g8 r ((b, C) :: bs) w) (ha : Alone wB g8 b bs) (hw : w'.heap[b]? = some (.cells C' 34 (0, 0))) (hk : ∀ k, k ≠ b → w'.heap[k]? = w.heap[k]?) (hbel : Below wB.heap.size wB w') : RfSt wB g8 r ((b, C') :: bs) w' :=
 ⟨hbel, (hk _ ha.root).trans h.br, fun x hx => by
  rcases List.mem_cons.1 hx with rfl | hx
  ·exact hw
  ·exact (hk _ (ha.apart x hx)).trans (h.bx x (List.mem_cons_of_mem _ hx))⟩
theorem RfSt.one (h : RfSt wB g8 r ((b, C) :: bs) w) : w.heap[b]? = some (.cells C 34 (0, 0)) := h.bx (b, C) List.mem_cons_self
theorem RfSt.row (h : RfSt wB g8 r ((b, C) :: bs) w) (ha : Alone wB g8 b bs) : RfSt wB g8 r ((b, C') :: bs) (w.setRow b C') :=
 h.set ha (setRow_heap _ _ _ _ _ _ h.one) (fun k hk => setRow_other _ _ _ _ hk) (below_setRow h.below ha.new)
theorem RfSt.add (h : RfSt wB g8 r bs w) (Z C : Array Value) : RfSt wB g8 r ((w.heap.size, C) :: bs) ((w.alloc (.cells Z 34)).setRow w.heap.size C) ∧ Alone wB g8 w.heap.size bs ∧ Below w.heap.size w ((w.alloc (.cells Z 34)).setRow w.heap.size C) := by
 have hb : Below w.heap.size w ((w.alloc (.cells Z 34)).setRow w.heap.size C) := below_setRow (below_alloc (Below.refl _ _) _) (Nat.le_refl _)
 refine ⟨⟨(h.next hb).below, (h.next hb).br, fun x hx => ?_⟩, ⟨h.below.size, ?_, fun x hx => ?_⟩, hb⟩
 ·rcases List.mem_cons.1 hx with rfl | hx
  ·exact setRow_heap _ _ _ _ _ _ (h_new rfl)
  ·exact (h.next hb).bx x hx
 ·have := (Array.getElem?_eq_some_iff.1 h.br).1; omega
 ·have := (Array.getElem?_eq_some_iff.1 (h.bx x hx)).1; omega
theorem set_PK {t : Nat} (s : ByteArray) (hg : w.heap[b]? = some (.cells (cP v e l) t (0, 0))) : (w.setCell ⟨b, 2, none⟩ (.string s)).heap[b]? = some (.cells (cP v e ⟨s, l.v⟩) t (0, 0)) := by
 rw [heap_setCell_same w b 2 _ t _ hg, cP, cP, Array.setIfInBounds_append_right (by simp), cL, cL, Array.setIfInBounds_append_left (by simp)]
 rfl
theorem run_c {ty : TypeId} {x : Value} (hi : (Tryz.prog.info? ty).map (·.size) = some 1) (hv : x.cells = #[x]) (h1 : x.oneCell' = true) (j : Nat) (hj : j < 35) (hg : w.heap[b]? = some (.cells (cP v e l) 34 (0, 0))) : (storeVar ty ⟨b, j, none⟩ x).run Tryz.prog w = .ok () (w.setCell ⟨b, j, none⟩ x) :=
 run_storeVar_cell rfl hv h1 hi (old := (cP v e l)[j]'(by rw [cP_size]; exact hj)) ((cell_of_row w b j _ _ _ hg).trans (Array.getElem?_eq_getElem (by rw [cP_size]; exact hj))) (frozen_of_row w b j _ _ hg)
end
theorem ld_Pf {w : World} {A : Option Addr} {n c : Nat} {e : Int} {l : Lf} {C : Array Value} {b : Nat} (hC : C = cP (.slice A n c) e l) (hg : w.heap[b]? = some (.cells C 34 (0, 0))) : (loadVar 34 ⟨b, 0, none⟩).run Tryz.prog w = .ok (.agg C) w := by
 rw [hC] at hg ⊢; exact ld_P hg 0
theorem Prove4R_calls (l : List Lf) (k : ByteArray) (A : Option Addr) (c : Nat) (w : World) (hr : kL.R 32 w 0 (fun _ => True) (.slice A l.length c) l) (hl : SmL l) (hk1 : k.size ≤ 100000) (p : Pf) (hp : proveOf l k = p) :
  Calls Tryz.prog 7 #[.slice A l.length c, .string k] w fun e w' => ∃ A' c' C, C = cP (.slice A' p.p.length c') p.e p.l ∧ e = .returned (.agg C) ∧ kS.C w' A' p.p.length p.p ∧ Below w.heap.size w w' := by
 have h := Prove4_calls l k A c w (R_C hr).2.2 (R_C hr).2.1 hl hk1
 rw [hp] at h
 refine h.mono ?_
 rintro e w' ⟨A', c', rfl, h1, _, h3⟩
 exact ⟨A', c', _, rfl, rfl, h1, h3⟩
theorem Root4R_calls (l : List Lf) (A : Option Addr) (c : Nat) (w : World) (hr : kL.R 32 w 0 (fun _ => True) (.slice A l.length c) l) (hl : SmL l) (r : Sm) (hq : rootOf l = r) :
  Calls Tryz.prog 11 #[.slice A l.length c] w fun e w' => e = .returned (.agg (cS r)) ∧ Below w.heap.size w w' := by
 have h := Root4_calls l A c w (R_C hr).2.2 (R_C hr).2.1 hl
 rw [show hashOf (itemsOf l) 0 = r from hq] at h
 exact h
theorem two_kinds {w wx wy : World} {n t1 t2 : Nat} (hn : n = w.heap.size) {Z1 Z2 C D : Array Value} (hwx : (w.alloc (.cells Z1 t1)).alloc (.cells Z2 t2) = wx) (hwy : (wx.setRow n C).setRow (n + 1) D = wy) :
  wx.heap[n]? = some (.cells Z1 t1 (0, 0)) ∧ (wx.setRow n C).heap[n + 1]? = some (.cells Z2 t2 (0, 0)) ∧ wy.heap[n]? = some (.cells C t1 (0, 0)) ∧ wy.heap[n + 1]? = some (.cells D t2 (0, 0)) ∧ Below w.heap.size w wy := by
 have h0 : wx.heap[n]? = some (.cells Z1 t1 (0, 0)) := by rw [← hwx, h_old (by simp only [size_alloc]; omega)]; exact h_new hn
 have h1 : wx.heap[n + 1]? = some (.cells Z2 t2 (0, 0)) := by rw [← hwx]; exact h_new (by rw [size_alloc, hn])
 have h2 := (setRow_other wx n (n + 1) C (by omega)).trans h1
 rw [← hwy]
 refine ⟨h0, h2, (setRow_other _ _ _ _ (by omega)).trans (setRow_heap _ _ _ _ _ _ h0), setRow_heap _ _ _ _ _ _ h2, ?_⟩
 rw [← hwx]
 exact below_setRow (below_setRow (below_alloc (below_alloc (Below.refl _ _) _) _) (by omega)) (by omega)
end Go.Proofs.YtanabbjakacgbaaGreatDoor.Sp
namespace Go.Proofs.YtanabbjakacgbaaGreatDoor.Sp
open Go.RowKit Go.Proofs.YtanabbjakacgbaaGreatDoorW.PrintWords Go.Proofs.YtanabbjakacgbaaGreatDoorW.PrintLast Go.Proofs.YtanabbjakacgbaaGreatDoorW.PrintMore Go.Proofs.YtanabbjakacgbaaGreatDoor.PM Go.Proofs.YtanabbjakacgbaaGreatDoor.Grow
set_option linter.unusedVariables false
set_option linter.unusedSimpArgs false
set_option maxRecDepth 100000
attribute [local go_sem] Oper.semAt_some
theorem Gd.below {b : Nat} {w w1 : World} {x : Hx} (h : Gd b w x) (hb : Below w.heap.size w w1) : Gd b w1 x := h.keep (Kp.below hb)
theorem Gd.lower {b b' : Nat} {w : World} {x : Hx} (h : Gd b w x) (hb : b' ≤ b) : Gd b' w x := ⟨h.1, h.2.1, h.2.2.lower hb⟩
theorem nodeX_calls (p q : Sm) (b : Nat) (w : World) (hb : b ≤ w.heap.size) :
  Calls Tryz.prog 50 #[.agg (cS p), .agg (cS q)] w fun e w' => ∃ x C, C = cH x ∧ x.h = nodeD p q ∧ e = .returned (.agg C) ∧ Gd b w' x ∧ Below w.heap.size w w' := by
 refine (node4b_calls p q w).mono ?_
 rintro e w' ⟨A, c, rfl, hr, hb'⟩
 exact ⟨⟨A, c, nodeD p q⟩, _, rfl, rfl, rfl, ⟨nodeD_t p q, Fit_node p q, hr.lower hb⟩, hb'⟩
theorem leafX_calls (x : Lf) (hk1 : x.k.size ≤ 100000) (b : Nat) (w : World) (hb : b ≤ w.heap.size) :
  Calls Tryz.prog 49 #[.agg (cL x)] w fun e w' => ∃ y C, C = cH y ∧ y.h = leafD x ∧ e = .returned (.agg C) ∧ Gd b w' y ∧ Below w.heap.size w w' := by
 refine (leaf4b_calls x hk1 w).mono ?_
 rintro e w' ⟨A, c, rfl, hr, hb'⟩
 exact ⟨⟨A, c, leafD x⟩, _, rfl, rfl, rfl, ⟨leafD_t x, Fit_leaf x hk1, hr.lower hb⟩, hb'⟩
theorem sumG_calls {C : Array Value} {x : Hx} (hC : C = cH x) {b : Nat} (w : World) (hg : Gd b w x) (s : Sm) (hs : sumD x.h = s) :
  Calls Tryz.prog 41 #[.agg C] w fun e w' => e = .returned (.agg (cS s)) ∧ Below w.heap.size w w' :=
 sumX_calls hC hg.1 hg.2.1 w hg.2.2.rob s hs
theorem R_setRowT {α : Type} {d : Kd α} {e : Nat} {w : World} {base g t : Nat} {v : Value} {xs : List α} {cells : Array Value} {fr : Nat × Nat} (h : d.R e w base (fun _ => True) v xs) (hg : w.heap[g]? = some (.cells cells t fr)) (hne : ∀ q, q ∈ e :: d.E → q ≠ t) (cs : Array Value) : d.R e (w.setRow g cs) base (fun _ => True) v xs :=
 Kd.R_mono (Kd.R_step (Kd.R_bound h) (fun k hk _ => setRow_other _ _ _ _ (fun e1 => by
  obtain ⟨_, _, _, q, hq, cells', hc'⟩ := hk
  rw [e1, hg] at hc'
  injection hc' with hc'
  injection hc' with _ hc'
  exact hne q hq hc'.symm))) (fun _ _ => trivial)
structure ChSt (wB : World) (b6 b : Nat) (s now : Sm) (v : Value) (hs : List Hd) (w : World) : Prop where
 below : Below wB.heap.size wB w
 h6 : w.heap[b6]? = some (.cells (cS now) 30 (0, 0))
 h7 : w.heap[b6 + 1]? = some (.cells (cS s) 30 (0, 0))
 row : Hrow wB.heap.size b w v hs
 lt : wB.heap.size ≤ b6 ∧ b6 + 1 < b ∧ b ≤ w.heap.size
section
variable {wB w w' : World} {b6 b : Nat} {s now : Sm} {v : Value} {hs : List Hd}
theorem ChSt.next (h : ChSt wB b6 b s now v hs w) (hb : Below w.heap.size w w') : ChSt wB b6 b s now v hs w' :=
 ⟨below_tr h.below hb h.below.size, at_next h.h6 hb, at_next h.h7 hb, h.row.below hb, by have := h.lt; have := hb.size; omega⟩
theorem ChSt.set (h : ChSt wB b6 b s now v hs w) (n : Sm) : ChSt wB b6 b s n v hs (w.setRow b6 (cS n)) := by
 have hl := h.lt
 refine ⟨below_setRow h.below (by omega), setRow_heap _ _ _ _ _ _ h.h6, (setRow_other _ _ _ _ (by omega)).trans h.h7, ?_, by rw [size_setRow]; omega⟩
 obtain ⟨L, h1, h2, h3⟩ := h.row
 exact ⟨L, R_setRowT h1 h.h6 (by intro q hq; simp [kH, flat] at hq; rw [hq]; decide) _, h2, fun x hx => (h3 x hx).keep (Kp.low (by omega))⟩
theorem ChSt.app {v1 : Value} {w1 : World} {hs1 : List Hd} (h : ChSt wB b6 b s now v hs w) (hr : Hrow wB.heap.size b w1 v1 hs1) (hb : Below wB.heap.size wB w1) (hk : Kp 0 w w1) (hz : w.heap.size ≤ w1.heap.size) : ChSt wB b6 b s now v1 hs1 w1 :=
 ⟨hb, hk b6 _ (Nat.zero_le _) h.h6 (fun _ _ e => by injection e with _ e; revert e; decide), hk _ _ (Nat.zero_le _) h.h7 (fun _ _ e => by injection e with _ e; revert e; decide), hr, by have := h.lt; omega⟩
theorem Hrow.own {B : Nat} (h : Hrow B b w v hs) {k : Nat} (hk : v.ownBlock = some k) : k < w.heap.size := by
 obtain ⟨L, h1, _, _⟩ := h
 obtain ⟨inner, ho⟩ := Kd.R_own h1
 obtain ⟨cells, hc⟩ := own_typed ho k hk
 exact (Array.getElem?_eq_some_iff.1 hc).1
end
theorem Kp.mono {b : Nat} {w w1 : World} (h : Kp 0 w w1) : Kp b w w1 := fun k o _ ho hn => h k o (Nat.zero_le _) ho hn
def nodF (p q : Sm) (b B : Nat) (i : Nat) (v : Value) (w : World) : Prop :=
 match i with
 | 6 => ∃ x C, v = .agg C ∧ C = cH x ∧ x.h = nodeD p q ∧ Gd b w x
 | _ => ∃ k, v = .pointer (some ⟨k, 0, none⟩) ∧ B ≤ k ∧ w.heap[k]? = some (.cells (cH zX) 85 (0, 0))
theorem nodF_mono (p q : Sm) (b B : Nat) : ∀ i v w w', nodF p q b B i v w → Below w.heap.size w w' → nodF p q b B i v w' := by
 intro i v w w' h hb
 unfold nodF at h ⊢
 split at h
 ·obtain ⟨x, C, h1, h2, h3, h4⟩ := h
  exact ⟨x, C, h1, h2, h3, h4.below hb⟩
 ·obtain ⟨k, h1, h2, h3⟩ := h
  exact ⟨k, h1, h2, at_next h3 hb⟩
theorem zero91 (w : World) : (zeroValue 85).run Tryz.prog w = .ok (.agg (cH zX)) w := by
 obtain ⟨i, hi, hz⟩ := Option.map_eq_some_iff.1 infoX
 simp only [Prod.mk.injEq] at hz
 simp [zeroValue, typeInfo, hi, hz.1, go_sem]
theorem oneX (x : Hx) : (cH x).all (·.oneCell') = true := all_one two_one
theorem chL_step (s : Sm) (p : List Sm) (i : Nat) (hi : i < p.length) (now : Sm) : chL s (p.drop i) i now = chL s (p.drop (i + 1)) (i + 1) now ++ [if bitI s i = 1 then nodeD (p.getD i zS) (upL s (p.drop (i + 1)) (i + 1) now) else nodeD (upL s (p.drop (i + 1)) (i + 1) now) (p.getD i zS)] := by
 rw [List.drop_eq_getElem_cons hi, chL, List.getD_eq_getElem?_getD, List.getElem?_eq_getElem hi]
 rfl
theorem up_step (s : Sm) (p : List Sm) (i : Nat) (hi : i < p.length) (now : Sm) : upL s (p.drop i) i now = sumD (if bitI s i = 1 then nodeD (p.getD i zS) (upL s (p.drop (i + 1)) (i + 1) now) else nodeD (upL s (p.drop (i + 1)) (i + 1) now) (p.getD i zS)) := by
 rw [List.drop_eq_getElem_cons hi, up_node, List.getD_eq_getElem?_getD, List.getElem?_eq_getElem hi]
 rfl
theorem chL_len (s : Sm) : ∀ (p : List Sm) (d : Nat) (now : Sm), (chL s p d now).length = p.length
 | [], _, _ => rfl
 | _ :: p, d, now => by rw [chL, List.length_append, chL_len s p]; rfl
theorem chain_len (k : ByteArray) (p : List Sm) (e : Int) (l : Lf) : (chainOf k p e l).length ≤ p.length + 1 := by
 rw [chainOf, List.length_append, chL_len, baseL]
 split
 ·simp
 ·simp; omega
theorem ld_C {w : World} {C : Array Value} {b : Nat} (hg : w.heap[b]? = some (.cells C 85 (0, 0))) (x : Hx) (hC : C = cH x) : (loadVar 85 ⟨b, 0, none⟩).run Tryz.prog w = .ok (.agg C) w := by
 subst hC
 exact le_H (row_cells hg) (Below.refl _ _) 0
set_option maxHeartbeats 4000000 in
theorem Chain_calls (k : ByteArray) (hk1 : k.size ≤ 100000) (A : Option Addr) (p : List Sm) (c : Nat) (hp : p.length ≤ 256) (e : Int) (l : Lf) (hl1 : l.k.size ≤ 100000) (w : World) (hr : kS.C w A p.length p) :
  Calls Tryz.prog 40 #[.string k, .agg (cP (.slice A p.length c) e l)] w fun r w' => ∃ A' c', r = .returned (.slice A' (chainOf k p e l).length c') ∧ Hrd w' A' c' (chainOf k p e l) ∧ Below w.heap.size w w' := by
 obtain ⟨g, hg⟩ : ∃ g, g = w.heap.size := ⟨_, rfl⟩
 obtain ⟨C, hC⟩ : ∃ C, C = cP (.slice A p.length c) e l := ⟨_, rfl⟩
 rw [← hC]
 obtain ⟨wb, hwb⟩ : ∃ wb, w.alloc (.cells C 34) = wb := ⟨_, rfl⟩
 have h0 : wb.heap[g]? = some (.cells C 34 (0, 0)) := by rw [← hwb]; exact h_new hg
 have hb : Below w.heap.size w wb := by rw [← hwb]; exact below_alloc (Below.refl _ _) _
 have HB := Aside0.mk (⟨h0, hb, Kd.C_below hr hb⟩ : _ ∧ _ ∧ _)
 have HC := Aside0.mk hC
 have HWB := Aside0.mk hwb
 have HG := Aside0.mk hg
 obtain ⟨s, hs0⟩ : ∃ s, hk k = s := ⟨_, rfl⟩
 have HK := Aside0.mk hs0
 obtain ⟨base, hba⟩ : ∃ n, baseS e l = n := ⟨_, rfl⟩
 have HBA := Aside0.mk hba
 have hcc : ∀ W : World, W.heap[g]? = some (.cells C 34 (0, 0)) → W.cell? ⟨g, 0, none⟩ = some (.slice A p.length c) ∧ W.cell? ⟨g, 1, none⟩ = some (.int .i64 e) ∧ (∀ j u, (cL l).toList[j]? = some u → W.cell? ((⟨g, 2, none⟩ : Addr).add j) = some u) := fun W h => by
  rw [HC.out] at h
  exact ⟨cell_P0 h, cell_P1 h, cells_P2 h⟩
 have HCC := Aside0.mk hcc
 clear h0 hb hC hwb hg hr hs0 hba hcc
 go_enter Tryz.func40, Tryz.ntmps40
 go_wp2_with (first
  | ((with_reducible refine gate_dst (N := 10) rfl ?_); rw [HWB.out, ← HG.out]; (refine bs0_H (wa := wb) rfl rfl rfl wb.heap.size 0 (Below.refl _ _) (Nat.le_refl _) ?_); intro v0 w1 hv0 hb1 hs1; have H1 := Aside0.mk (And.intro hv0 hb1); clear hv0 hb1 hs1)
  | ((with_reducible refine gate_dst (N := 11) rfl ?_); (refine wpList_built0 rfl 30 rfl (cS zS) (by kernel_rfl) ?_))
  | ((with_reducible refine gate_dst (N := 13) rfl ?_); (refine wpList_str rfl (.tmp 12) rfl k rfl Tryz.underlying9 Tryz.underlying53 Tryz.underlying5 ?_))
  | (go_at_call 27; (refine (sumK3_calls k (by omega) w1).mono ?_); rw [HK.out]; rintro e w2 ⟨rfl, hb2⟩; have hb3 := below_tr (bytes_below' w1 k) hb2 (bytes_below' w1 k).size; have H2 := Aside0.mk (And.intro (Hrow.below H1.out.1 hb3) (below_tr H1.out.2 hb3 H1.out.2.size)); clear hb2 hb3)
  | ((with_reducible refine gate_dst (N := 6) rfl ?_); (refine wpList_allocz rfl 30 (cS zS) rfl zero27 ?_))
  | ((with_reducible refine gate_dst (N := 7) rfl ?_); (refine wpList_allocz rfl 30 (cS zS) rfl zero27 ?_); rw [size_alloc]; obtain ⟨g6, hg6⟩ : ∃ g, g = w2.heap.size := ⟨_, rfl⟩; obtain ⟨wx, hwx⟩ : ∃ wx, (w2.alloc (.cells (cS zS) 30)).alloc (.cells (cS zS) 30) = wx := ⟨_, rfl⟩; obtain ⟨wy, hwy⟩ : ∃ wy, (wx.setRow g6 (cS zS)).setRow (g6 + 1) (cS s) = wy := ⟨_, rfl⟩; have HTK := Aside0.mk (two_kinds hg6 hwx hwy); have HSZ := Aside0.mk (show wy.heap.size = g6 + 2 by rw [← hwy, size_setRow, size_setRow, ← hwx, size_alloc, size_alloc, hg6]); have HWX := Aside0.mk hwx; have HWY := Aside0.mk hwy; rw [← hg6]; have HG6 := Aside0.mk hg6; clear hwx hwy hg6)
  | ((with_reducible refine gate_store (t := 30) (p := 6) rfl ?_); rw [HWX.out]; (refine wpList_store_row rfl 30 (.tmp 6) (.tmp 11) rfl g6 (cS zS) rfl rfl 30 (cS zS) HTK.out.1 (by rw [cS_size]; kernel_rfl) (by rw [cS_size]) (encI_one _) ?_))
  | ((with_reducible refine gate_store (t := 30) (p := 7) rfl ?_); (refine wpList_store_row rfl 30 (.tmp 7) (.tmp 14) rfl (g6 + 1) (cS s) rfl rfl 30 (cS zS) HTK.out.2.1 (by rw [cS_size]; kernel_rfl) (by rw [cS_size, cS_size]) (encI_one _) ?_); (refine at_world (w' := wy) HWY.out ?_); refine pause_ ?_))
 have hst : ChSt wb g6 (g6 + 2) s zS v0 [] wy := by
  have h3 := HG6.out
  have h4 := HTK.out.2.2.2.2
  have h5 := H2.out.2
  have h6 := HSZ.out
  refine ⟨below_tr h5 h4 h5.size, HTK.out.2.2.1, HTK.out.2.2.2.1, ?_, ?_⟩
  ·obtain ⟨L, k1, k2, k3⟩ := H2.out.1
   obtain rfl : L = [] := List.map_eq_nil_iff.1 k2
   exact ⟨[], Kd.R_below k1 h4, rfl, fun _ hx => by cases hx⟩
  ·have := h5.size
   omega
 by_cases he : e = 0
 ·have HST : Aside0 (ChSt wb g6 (g6 + 2) s base v0 (baseL e l) wy) := Aside0.mk (by rw [← HBA.out, baseS, baseL, if_pos he, if_pos he]; exact hst)
  have heb : (e != 0) = false := by simp [he]
  have hx := (HCC.out wy (at_next HB.out.1 HST.out.below)).2.1
  have hx2 := (HCC.out wy (at_next HB.out.1 HST.out.below)).1
  clear he hst
  refine unpause_ ?_
  go_wp2
  try rw [heb]
  clear heb hx hx2
  go_loopw [5, 8] (fun v i wr => ∃ (n : Nat) (v' : Value), v' = v ∧ i = .int .i64 ((n : Int) - 1) ∧ n ≤ p.length ∧ Aside0 (ChSt wb g6 (g6 + 2) s (upL s (p.drop n) n base) v' (baseL e l ++ chL s (p.drop n) n base) wr)) (fun _ i _ => (intOf i + 1).toNat)
  case atStart => exact ⟨p.length, _, rfl, by simp, by omega, by rw [List.drop_length, upL, chL, List.append_nil]; exact HST⟩
  case round =>
   clear HST HTK HSZ HWX HWY HG6 H2 H1
   obtain ⟨n, v, rfl, rfl, hn, HS0⟩ := hrel
   obtain ⟨Av, cv, ev, hrd⟩ := HS0.out.row.rd
   rcases Nat.eq_zero_or_pos n with hn0 | hn0
   ·subst hn0
    have hch : baseL e l ++ chL s (p.drop 0) 0 base = chainOf k p e l := by rw [List.drop_zero, chainOf, HK.out, HBA.out]
    rw [hch] at ev hrd
    subst ev
    have HQ := Aside0.mk (And.intro hrd (HB.out.2.1.trans (HS0.out.below.mono HB.out.2.1.size)))
    clear hrd hch HS0
    go_wp2
    go_ret
    exact ⟨Av, cv, rfl, HQ.out⟩
   ·obtain ⟨m, rfl⟩ : ∃ m, n = m + 1 := ⟨n - 1, by omega⟩
    rw [show (((m + 1 : Nat) : Int) - 1) = (m : Int) by omega]
    have c5b : (m : Int) < (p.length : Int) := by omega
    have c5c := eq_true c5b
    have c5d : ((0 : Int) ≤ (m : Int)) = True := eq_true (by omega)
    obtain ⟨now, hnow⟩ : ∃ x, upL s (p.drop (m + 1)) (m + 1) base = x := ⟨_, rfl⟩
    obtain ⟨o, ho⟩ : ∃ x, p.getD m zS = x := ⟨_, rfl⟩
    have hst := HS0.out
    rw [hnow] at hst
    obtain ⟨ad, eA, hat⟩ := at_flat HB.out.2.2 zS (m : Int) (by omega) c5b
    rw [show ((m : Int).toNat) = m by omega, ho] at hat
    subst eA
    have hk1' := chL_step s p m (by omega) base
    have hk2' := up_step s p m (by omega) base
    rw [ho, hnow] at hk1' hk2'
    have HS := Aside0.mk (⟨hst, hat, ev⟩ : ChSt wb g6 (g6 + 2) s now v _ wr ∧ _ ∧ _)
    have HKS := Aside0.mk (And.intro hk1' hk2')
    have HKL := Aside0.mk (show (baseL e l ++ chL s (p.drop (m + 1)) (m + 1) base).length ≤ 1000 by
     rw [List.length_append, chL_len, List.length_drop, baseL]
     split <;> simp <;> omega)
    clear hst hat hk1' hk2' hnow ho HS0 hrd ev
    have hcx := (HCC.out wr (at_next HB.out.1 HS.out.1.below)).1
    go_wp2
    refine start_ (n := 9) (S := fun w' => Below wr.heap.size wr w') (ds := []) #[false, false, false, false, false, false, false, false, false] (by kernel_rfl) rfl rfl (Below.refl _ _).drew (fun hHeld => ?_)
    refine take_ (i := 0) (N := some 36) (v := .agg (cS now)) (a' := ?_) #[true, false, false, false, false, false, false, false, false] rfl rfl (by kernel_rfl) (fun _ _ _ h => h) (Or.inl ⟨by rfl, fun w' hS => yield_load _ _ rfl _ rfl (ld_S (HS.out.1.next hS).h6 0)⟩) hHeld ?_ ?_
    rotate_left
    ·simp only [Act.put, lZa, lZb, lZc, i64_w, i32_w]
     rfl
    refine pure_ (i := 1) (N := some 37) (v := ?_) (a' := ?_) #[true, true, false, false, false, false, false, false, false] rfl rfl (by kernel_rfl) (fun _ _ _ h => h) (Or.inl ⟨by rfl, ?_⟩) ?_ ?_
    rotate_left
    ·intro w'
     go_simp
     with_reducible rfl
    rotate_left
    ·simp only [Act.put, lZa, lZb, lZc, i64_w, i32_w]
     rfl
    refine take_ (i := 2) (N := some 38) (v := ?_) (a' := ?_) #[true, true, true, false, false, false, false, false, false] rfl rfl (by kernel_rfl) (fun _ _ _ h => h) (Or.inl ⟨by rfl, ?_⟩) hHeld ?_ ?_
    rotate_left
    ·intro w' hS
     have hx := (HCC.out w' (at_next HB.out.1 (HS.out.1.next hS).below)).1
     go_simp
     with_reducible rfl
    rotate_left
    ·simp only [Act.put, lZa, lZb, lZc, i64_w, i32_w]
     rfl
    refine pure_ (i := 3) (N := some 39) (v := ?_) (a' := ?_) #[true, true, true, true, false, false, false, false, false] rfl rfl (by kernel_rfl) (fun _ _ _ h => h) (Or.inl ⟨by rfl, ?_⟩) ?_ ?_
    rotate_left
    ·intro w'
     go_simp
     with_reducible rfl
    rotate_left
    ·simp only [Act.put, lZa, lZb, lZc, i64_w, i32_w]
     rfl
    refine pure_ (i := 4) (N := some 40) (v := ?_) (a' := ?_) #[true, true, true, true, true, false, false, false, false] rfl rfl (by kernel_rfl) (fun _ _ _ h => h) (Or.inl ⟨by rfl, ?_⟩) ?_ ?_
    rotate_left
    ·intro w'
     go_simp
     with_reducible rfl
    rotate_left
    ·simp only [Act.put, lZa, lZb, lZc, i64_w, i32_w]
     rfl
    refine take_ (i := 5) (N := some 41) (v := .agg (cS o)) (a' := ?_) #[true, true, true, true, true, true, false, false, false] rfl rfl (by kernel_rfl) (fun _ _ _ h => h) (Or.inl ⟨by rfl, fun w' hS => yield_load _ _ rfl _ rfl (le_S HS.out.2.1 (HS.out.1.next hS).below 0)⟩) hHeld ?_ ?_
    rotate_left
    ·simp only [Act.put, lZa, lZb, lZc, i64_w, i32_w]
     rfl
    refine makers3_ (n := 8) (f := 2) (fe := 1) #[true, true, true, true, true, true, false, false, false] #[true, true, true, true, true, true, true, true, false] (by kernel_rfl) [36, 37, 38, 39, 40, 41, 42, 9] (by kernel_rfl) (by kernel_rfl) rfl (nodF now o (g6 + 2) wr.drew.heap.size) (fun _ => false) (fun _ h => below_tr hHeld h hHeld.size) (nodF_mono _ _ _ _) ?hstep ?hend
    case hstep =>
     intro i o' hi hu ho' vs w2 hv hb2 hd K hK
     have h0 : vs 0 = .agg (cS now) := hv 0 (by decide) (by decide)
     have h5 : vs 5 = .agg (cS o) := hv 5 (by decide) (by decide)
     have hsz : g6 + 2 ≤ w2.heap.size := Nat.le_trans HS.out.1.lt.2.2 (below_tr hHeld hb2 hHeld.size).size
     simp only [fil2, List.zipIdx_cons, List.zipIdx_nil, List.foldl_cons, List.foldl_nil, lZa, lZb, lZc, Nat.zero_add, Nat.reduceAdd] at hK ⊢
     match i, hi, hu, ho', hK, hd with
     | 6, _, _, ho', hK, hd =>
      obtain rfl : _ = o' := Option.some.inj ho'
      refine gr_go Tryz.func50 (by kernel_rfl) rfl #[.agg (cS now), .agg (cS o)] rfl (by simp only [List.map_toArray, List.map_cons, List.map_nil]; rw [← h0, ← h5]; rfl) ?_
      refine (nodeX_calls now o (g6 + 2) w2 hsz).mono ?_
      rintro e w3 ⟨x, C, hC, hx, rfl, hg, hb3⟩
      exact ⟨_, rfl, hK _ _ ⟨x, C, rfl, hC, hx, hg⟩ hb3 (fun h => by cases h)⟩
     | 7, _, _, ho', hK, hd =>
      obtain rfl : _ = o' := Option.some.inj ho'
      exact gr_alloc 85 (.agg (cH zX)) rfl zero91 (hK _ _ ⟨_, rfl, hb2.size, h_new rfl⟩ (below_alloc (Below.refl _ _) _) (fun h => by cases h))
     | 0, _, hu, _, _, _ => exact absurd hu (by decide)
     | 1, _, hu, _, _, _ => exact absurd hu (by decide)
     | 2, _, hu, _, _, _ => exact absurd hu (by decide)
     | 3, _, hu, _, _, _ => exact absurd hu (by decide)
     | 4, _, hu, _, _, _ => exact absurd hu (by decide)
     | 5, _, hu, _, _, _ => exact absurd hu (by decide)
     | _ + 8, hi, _, _, _, _ => exact absurd hi (by omega)
    case hend =>
     intro vs w6 hv hb6 hF hD
     simp only [fil2, List.zipIdx_cons, List.zipIdx_nil, List.foldl_cons, List.foldl_nil, lZa, lZb, lZc, Nat.zero_add, Nat.reduceAdd]
     obtain ⟨x, C8, f6, hC8, hxh, hg8⟩ : ∃ x C, vs 6 = .agg C ∧ C = cH x ∧ x.h = nodeD now o ∧ Gd (g6 + 2) w6 x := hF 6 (by decide) rfl
     obtain ⟨b9, f7, B9, h9⟩ : ∃ k, vs 7 = .pointer (some ⟨k, 0, none⟩) ∧ wr.drew.heap.size ≤ k ∧ w6.heap[k]? = some (.cells (cH zX) 85 (0, 0)) := hF 7 (by decide) rfl
     rw [f6, f7]
     have hHeld := below_tr hHeld hb6 hHeld.size
     have B9 : wr.heap.size ≤ b9 := B9
     have HB9 := Aside0.mk B9
     clear f6 f7 hF hD hv hb6
     generalize vs 0 = v0
     generalize vs 1 = v1
     generalize vs 2 = v2
     generalize vs 3 = v3
     generalize vs 4 = v4
     generalize vs 5 = v5
     have o8 : C8.all (·.oneCell') = true := by rw [hC8]; exact oneX x
     have z8 : C8.size = 2 := by rw [hC8]; rfl
     refine one_ (i := 8) (N := none) #[true, true, true, true, true, true, true, true, true] rfl rfl (by kernel_rfl) (by decide) (fun K hK => ?_)
     refine st_row (by rfl) rfl 85 (.tmp 9) (.tmp 42) rfl b9 C8 rfl rfl 85 (cH zX) h9 (by rw [z8]; kernel_rfl) (by rw [z8]; rfl) o8 ?_
     refine hK.out _ _ (below_setRow hHeld B9) (fun hHeld => ?_)
     clear hK K
     refine done_ (by kernel_rfl) ?_
     obtain ⟨wz, hwz⟩ : ∃ W, w6.setRow b9 C8 = W := ⟨_, rfl⟩
     have hz9 : wz.heap[b9]? = some (.cells C8 85 (0, 0)) := by rw [← hwz]; exact setRow_heap _ _ _ _ _ _ h9
     have hgz : Gd (g6 + 2) wz x := by rw [← hwz]; exact hg8.keep (Kp.row h9)
     rw [hwz] at hHeld ⊢
     have HZ := Aside0.mk (⟨HS.out.1.next hHeld, hC8, hxh, hz9, hgz, hHeld⟩ : ChSt wb g6 (g6 + 2) s now v _ wz ∧ C8 = cH x ∧ x.h = nodeD now o ∧ _ ∧ Gd (g6 + 2) wz x ∧ Below wr.heap.size wr wz)
     clear hwz hz9 hgz hHeld h9 B9 hC8 hxh hg8 o8 z8
     rcases bitI_01 s m with hbit | hbit
     ·have HBIT := Aside0.mk hbit
      have HNX := Aside0.mk (show sumD x.h = sumD (if bitI s m = 1 then nodeD o now else nodeD now o) by rw [HZ.out.2.2.1, HBIT.out, if_neg (by decide)])
      clear hbit
      go_wp2_with (first
       | ((with_reducible refine gate_dst (N := 43) rfl ?_); (refine wpList_loadv rfl 30 _ rfl _ rfl _ (ld_S HZ.out.1.h7 0) ?_))
       | (go_at_call 29; (refine (bit4_calls s m (by omega) wz).mono ?_); rw [HBIT.out]; rintro e w9 ⟨rfl, hb9⟩; have H9 := Aside0.mk hb9; clear hb9; (obtain ⟨C9, e9⟩ : ∃ C, C = C8 := ⟨_, rfl⟩); (obtain ⟨y, ey⟩ : ∃ y, y = x := ⟨_, rfl⟩); (obtain ⟨nx, hnx⟩ : ∃ nx, sumD x.h = nx := ⟨_, rfl⟩); have HN := Aside0.mk (⟨HZ.out.1.next H9.out, by rw [e9, ey]; exact HZ.out.2.1, by rw [ey, HZ.out.2.2.1, HBIT.out, if_neg (by decide)], by rw [e9]; exact at_next HZ.out.2.2.2.1 H9.out, by rw [ey]; exact HZ.out.2.2.2.2.1.below H9.out⟩ : ChSt wb g6 (g6 + 2) s now v _ w9 ∧ C9 = cH y ∧ y.h = (if bitI s m = 1 then nodeD o now else nodeD now o) ∧ w9.heap[b9]? = some (.cells C9 85 (0, 0)) ∧ Gd (g6 + 2) w9 y); have HNX := Aside0.mk (show sumD y.h = nx by rw [ey]; exact hnx); have HK2 := Aside0.mk (show upL s (p.drop m) m base = nx ∧ baseL e l ++ chL s (p.drop m) m base = baseL e l ++ chL s (p.drop (m + 1)) (m + 1) base ++ [if bitI s m = 1 then nodeD o now else nodeD now o] by rw [HKS.out.1, HKS.out.2, ← HN.out.2.2.1, HNX.out, List.append_assoc]; exact ⟨rfl, rfl⟩); clear e9 ey hnx HBIT; have HLD9 := Aside0.mk (show ∀ W, Below w9.heap.size w9 W → (loadVar 85 ⟨b9, 0, none⟩).run Tryz.prog W = .ok (.agg C9) W from fun W hb => ld_C (w := W) (at_next HN.out.2.2.2.1 hb) y HN.out.2.1))
       | ((with_reducible refine gate_dst (N := 55) rfl ?_); (refine wpList_loadv rfl 85 _ rfl _ rfl _ (HLD9.out w9 (Below.refl _ _)) ?_))
       | ((with_reducible refine gate_dst (N := 56) rfl ?_); (refine bs1_H rfl _ rfl y (by rw [← HN.out.2.1]; rfl) ?_))
       | ((with_reducible refine gate_dst (N := 57) rfl ?_); (refine app_H (wa := wb) rfl (.tmp 54) (.tmp 56) rfl v (baseL e l ++ chL s (p.drop (m + 1)) (m + 1) base) y rfl rfl wb.heap.size (g6 + 2) HN.out.1.row HN.out.2.2.2.2 HN.out.1.below HN.out.1.below.size (by have := HKL.out; omega) ?_); intro v1 wa hva hba hka hza hoa; rw [HN.out.2.2.1] at hva; have st := HN.out.1.app hva hba hka hza; have ha9 := (hoa b9 (Array.getElem?_eq_some_iff.1 HN.out.2.2.2.1).1 (fun e => absurd (Hrow.own HS.out.1.row e.symm) (by have := HB9.out; omega))).trans HN.out.2.2.2.1; have HA := Aside0.mk (⟨st, ld_C ha9 y HN.out.2.1, HN.out.2.2.2.2.keep (Kp.mono hka)⟩ : ChSt wb g6 (g6 + 2) s _ v1 _ wa ∧ (loadVar 85 ⟨b9, 0, none⟩).run Tryz.prog wa = .ok (.agg C9) wa ∧ Gd (g6 + 2) wa y); clear hva hba hka hza hoa st ha9)
       | ((with_reducible refine gate_dst (N := 58) rfl ?_); (refine wpList_loadv rfl 85 _ rfl _ rfl _ HA.out.2.1 ?_))
       | (go_at_call 41; (with_reducible refine (sumG_calls HN.out.2.1 wa HA.out.2.2 nx HNX.out).mono ?_); rintro e w8 ⟨rfl, hb8⟩; have H8 := Aside0.mk (HA.out.1.next hb8); clear hb8)
       | ((with_reducible refine gate_store (t := 30) (p := 6) rfl ?_); (refine wpList_store_row rfl 30 (.tmp 6) (.tmp 59) rfl g6 (cS nx) rfl rfl 30 (cS _) H8.out.h6 (by rw [cS_size]; kernel_rfl) (by rw [cS_size, cS_size]) (encI_one _) ?_)))
      exact ⟨⟨m, v1, rfl, rfl, by omega, by rw [HK2.out.1, HK2.out.2]; exact ⟨H8.out.set nx⟩⟩, by simp [intOf]⟩
     ·have HBIT := Aside0.mk hbit
      clear hbit
      have hcz := (HCC.out wz (at_next HB.out.1 HZ.out.1.below)).1
      go_wp2_with (first
       | ((with_reducible refine gate_dst (N := 43) rfl ?_); (refine wpList_loadv rfl 30 _ rfl _ rfl _ (ld_S HZ.out.1.h7 0) ?_))
       | (go_at_call 29; (refine (bit4_calls s m (by omega) wz).mono ?_); rw [HBIT.out]; rintro e wt ⟨rfl, hbt⟩; have HT := Aside0.mk (⟨HZ.out.1.next hbt, at_next HZ.out.2.2.2.1 hbt, below_tr HZ.out.2.2.2.2.2 hbt HZ.out.2.2.2.2.2.size⟩ : ChSt wb g6 (g6 + 2) s now v _ wt ∧ _ ∧ _); clear hbt hcz))
      refine start_ (n := 8) (S := fun w' => Below wt.heap.size wt w') (ds := [7]) #[false, false, false, false, false, false, false, false] (by kernel_rfl) rfl rfl (Below.refl _ _).drew (fun hHeld => ?_)
      refine pure_ (i := 0) (N := some 47) (v := ?_) (a' := ?_) #[true, false, false, false, false, false, false, false] rfl rfl (by kernel_rfl) (fun _ _ _ h => h) (Or.inl ⟨by rfl, ?_⟩) ?_ ?_
      rotate_left
      ·intro w'
       go_simp
       with_reducible rfl
      rotate_left
      ·simp only [Act.put, lZa, lZb, lZc, i64_w, i32_w]
       rfl
      refine take_ (i := 1) (N := some 48) (v := ?_) (a' := ?_) #[true, true, false, false, false, false, false, false] rfl rfl (by kernel_rfl) (fun _ _ _ h => h) (Or.inl ⟨by rfl, ?_⟩) hHeld ?_ ?_
      rotate_left
      ·intro w' hS
       have hx := (HCC.out w' (at_next HB.out.1 (HT.out.1.next hS).below)).1
       go_simp
       with_reducible rfl
      rotate_left
      ·simp only [Act.put, lZa, lZb, lZc, i64_w, i32_w]
       rfl
      refine pure_ (i := 2) (N := some 49) (v := ?_) (a' := ?_) #[true, true, true, false, false, false, false, false] rfl rfl (by kernel_rfl) (fun _ _ _ h => h) (Or.inl ⟨by rfl, ?_⟩) ?_ ?_
      rotate_left
      ·intro w'
       go_simp
       with_reducible rfl
      rotate_left
      ·simp only [Act.put, lZa, lZb, lZc, i64_w, i32_w]
       rfl
      refine pure_ (i := 3) (N := some 50) (v := ?_) (a' := ?_) #[true, true, true, true, false, false, false, false] rfl rfl (by kernel_rfl) (fun _ _ _ h => h) (Or.inl ⟨by rfl, ?_⟩) ?_ ?_
      rotate_left
      ·intro w'
       go_simp
       with_reducible rfl
      rotate_left
      ·simp only [Act.put, lZa, lZb, lZc, i64_w, i32_w]
       rfl
      refine take_ (i := 4) (N := some 51) (v := .agg (cS o)) (a' := ?_) #[true, true, true, true, true, false, false, false] rfl rfl (by kernel_rfl) (fun _ _ _ h => h) (Or.inl ⟨by rfl, fun w' hS => yield_load _ _ rfl _ rfl (le_S HS.out.2.1 (HT.out.1.next hS).below 0)⟩) hHeld ?_ ?_
      rotate_left
      ·simp only [Act.put, lZa, lZb, lZc, i64_w, i32_w]
       rfl
      refine take_ (i := 5) (N := some 52) (v := .agg (cS now)) (a' := ?_) #[true, true, true, true, true, true, false, false] rfl rfl (by kernel_rfl) (fun _ _ _ h => h) (Or.inl ⟨by rfl, fun w' hS => yield_load _ _ rfl _ rfl (ld_S (HT.out.1.next hS).h6 0)⟩) hHeld ?_ ?_
      rotate_left
      ·simp only [Act.put, lZa, lZb, lZc, i64_w, i32_w]
       rfl
      refine one_ (i := 6) (N := some 53) #[true, true, true, true, true, true, true, false] rfl rfl (by kernel_rfl) (by decide) (fun K hK => ?_)
      refine goes_ Tryz.func50 (by kernel_rfl) rfl #[.agg (cS o), .agg (cS now)] (by rfl) rfl rfl (by simp only [List.map_toArray, List.map_cons, List.map_nil]; rfl) ?_
      refine (nodeX_calls o now (g6 + 2) _ (HT.out.1.next hHeld).lt.2.2).mono ?_
      rintro e wu ⟨y, C9, hC9, hyh, rfl, hgu, hbu⟩
      refine ⟨_, rfl, ?_⟩
      have hHu := below_tr hHeld hbu hHeld.size
      refine hK.out _ _ (below_tr hHeld hbu hHeld.size) (fun hHeld => ?_)
      clear hK K
      refine norm_ (a' := ?_) ?_ ?_
      rotate_left
      ·show Act.put _ (some 53) _ = _
       simp only [Act.put, lZa, lZb, lZc, i64_w, i32_w]
       rfl
      have o9 : C9.all (·.oneCell') = true := by rw [hC9]; exact oneX y
      have z9 : C9.size = 2 := by rw [hC9]; rfl
      have hu9 := at_next HT.out.2.1 hHu
      have hb9t : wr.heap.size ≤ b9 := HB9.out
      refine last_ (i := 7) (N := none) #[true, true, true, true, true, true, true, true] rfl rfl (by kernel_rfl) (by decide) (fun K hK => ?_)
      refine st_row (by rfl) rfl 85 (.tmp 9) (.tmp 53) rfl b9 C9 rfl rfl 85 C8 hu9 (by rw [z9]; kernel_rfl) (by rw [z9, HZ.out.2.1]; rfl) o9 ?_
      have hHw := below_setRow (cs := C9) (below_tr HT.out.2.2 hHu HT.out.2.2.size) HB9.out
      refine hK.out _ _ ?_
      clear hK K
      refine done_ (by kernel_rfl) ?_
      obtain ⟨w9, hw9⟩ : ∃ W, wu.setRow b9 C9 = W := ⟨_, rfl⟩
      have hz9 : w9.heap[b9]? = some (.cells C9 85 (0, 0)) := by rw [← hw9]; exact setRow_heap _ _ _ _ _ _ hu9
      have hg9 : Gd (g6 + 2) w9 y := by rw [← hw9]; exact hgu.keep (Kp.row hu9)
      rw [hw9] at hHw ⊢
      obtain ⟨nx, hnx⟩ : ∃ nx, sumD y.h = nx := ⟨_, rfl⟩
      have HN := Aside0.mk (⟨HS.out.1.next hHw, hC9, by rw [hyh, HBIT.out, if_pos rfl], hz9, hg9⟩ : ChSt wb g6 (g6 + 2) s now v _ w9 ∧ C9 = cH y ∧ y.h = (if bitI s m = 1 then nodeD o now else nodeD now o) ∧ w9.heap[b9]? = some (.cells C9 85 (0, 0)) ∧ Gd (g6 + 2) w9 y)
      have HNX := Aside0.mk hnx
      have HK2 := Aside0.mk (show upL s (p.drop m) m base = nx ∧ baseL e l ++ chL s (p.drop m) m base = baseL e l ++ chL s (p.drop (m + 1)) (m + 1) base ++ [if bitI s m = 1 then nodeD o now else nodeD now o] by rw [HKS.out.1, HKS.out.2, ← HN.out.2.2.1, HNX.out, List.append_assoc]; exact ⟨rfl, rfl⟩)
      have HLD9 := Aside0.mk (show ∀ W, Below w9.heap.size w9 W → (loadVar 85 ⟨b9, 0, none⟩).run Tryz.prog W = .ok (.agg C9) W from fun W hb => ld_C (w := W) (at_next HN.out.2.2.2.1 hb) y HN.out.2.1)
      clear hw9 hz9 hg9 hHw hHeld hu9 o9 z9 hHu hC9 hyh hgu hbu hnx HBIT HT
      go_wp2_with (first
       | ((with_reducible refine gate_dst (N := 55) rfl ?_); (refine wpList_loadv rfl 85 _ rfl _ rfl _ (HLD9.out w9 (Below.refl _ _)) ?_))
       | ((with_reducible refine gate_dst (N := 56) rfl ?_); (refine bs1_H rfl _ rfl y (by rw [← HN.out.2.1]; rfl) ?_))
       | ((with_reducible refine gate_dst (N := 57) rfl ?_); (refine app_H (wa := wb) rfl (.tmp 54) (.tmp 56) rfl v (baseL e l ++ chL s (p.drop (m + 1)) (m + 1) base) y rfl rfl wb.heap.size (g6 + 2) HN.out.1.row HN.out.2.2.2.2 HN.out.1.below HN.out.1.below.size (by have := HKL.out; omega) ?_); intro v1 wa hva hba hka hza hoa; rw [HN.out.2.2.1] at hva; have st := HN.out.1.app hva hba hka hza; have ha9 := (hoa b9 (Array.getElem?_eq_some_iff.1 HN.out.2.2.2.1).1 (fun e => absurd (Hrow.own HS.out.1.row e.symm) (by have := HB9.out; omega))).trans HN.out.2.2.2.1; have HA := Aside0.mk (⟨st, ld_C ha9 y HN.out.2.1, HN.out.2.2.2.2.keep (Kp.mono hka)⟩ : ChSt wb g6 (g6 + 2) s _ v1 _ wa ∧ (loadVar 85 ⟨b9, 0, none⟩).run Tryz.prog wa = .ok (.agg C9) wa ∧ Gd (g6 + 2) wa y); clear hva hba hka hza hoa st ha9)
       | ((with_reducible refine gate_dst (N := 58) rfl ?_); (refine wpList_loadv rfl 85 _ rfl _ rfl _ HA.out.2.1 ?_))
       | (go_at_call 41; (with_reducible refine (sumG_calls HN.out.2.1 wa HA.out.2.2 nx HNX.out).mono ?_); rintro e w8 ⟨rfl, hb8⟩; have H8 := Aside0.mk (HA.out.1.next hb8); clear hb8)
       | ((with_reducible refine gate_store (t := 30) (p := 6) rfl ?_); (refine wpList_store_row rfl 30 (.tmp 6) (.tmp 59) rfl g6 (cS nx) rfl rfl 30 (cS _) H8.out.h6 (by rw [cS_size]; kernel_rfl) (by rw [cS_size, cS_size]) (encI_one _) ?_)))
      exact ⟨⟨m, v1, rfl, rfl, by omega, by rw [HK2.out.1, HK2.out.2]; exact ⟨H8.out.set nx⟩⟩, by simp [intOf]⟩
 ·have heb : (e != 0) = true := by simp [he]
  have hcl := HCC.out wy (at_next HB.out.1 hst.below)
  have hx := hcl.2.1
  have hx2 := hcl.1
  have HS3 := Aside0.mk (⟨hst, hcl.2.2, by rw [baseL, if_neg he], by rw [← HBA.out, baseS, if_neg he]; rfl⟩ : ChSt wb g6 (g6 + 2) s zS v0 [] wy ∧ _ ∧ baseL e l = [leafD l] ∧ base = sumD (leafD l))
  clear he hst hcl
  refine unpause_ ?_
  go_wp2_with (first
   | ((with_reducible refine gate_dst (N := 20) rfl ?_); (refine wpList_loadv rfl 32 _ rfl _ rfl _ (le_L HS3.out.2.1 (Below.refl _ _) 0) ?_))
   | (go_at_call 49; (refine (leafX_calls l hl1 (g6 + 2) wy HS3.out.1.lt.2.2).mono ?_); rintro e w3 ⟨x3, C3, hC3, hx3, rfl, hg3, hb3⟩; have H3 := Aside0.mk (⟨HS3.out.1.next hb3, hC3, hx3, hg3⟩ : ChSt wb g6 (g6 + 2) s zS v0 [] w3 ∧ C3 = cH x3 ∧ x3.h = leafD l ∧ Gd (g6 + 2) w3 x3); clear hC3 hx3 hg3 hb3)
   | ((with_reducible refine gate_dst (N := 22) rfl ?_); (refine bs1_H rfl _ rfl x3 (by rw [← H3.out.2.1]; rfl) ?_))
   | ((with_reducible refine gate_dst (N := 23) rfl ?_); (refine app_H (wa := wb) rfl (.tmp 18) (.tmp 22) rfl v0 [] x3 rfl rfl wb.heap.size (g6 + 2) H3.out.1.row H3.out.2.2.2 H3.out.1.below H3.out.1.below.size (by simp) ?_); intro v1 wa hva hba hka hza hoa; rw [List.nil_append, H3.out.2.2.1, ← HS3.out.2.2.1] at hva; have st := H3.out.1.app hva hba hka hza; (obtain ⟨A1, c1, ev1, hrd1⟩ := hva.rd); rw [show (baseL e l).length = 1 by rw [HS3.out.2.2.1]; rfl] at ev1; subst ev1; (obtain ⟨ad1, x1, e1, hx1, hat1, ht1, hf1, hr1⟩ := hrd1.at 0 (by rw [HS3.out.2.2.1]; exact Nat.zero_lt_one)); subst e1; (obtain ⟨C1, hC1⟩ : ∃ C, C = cH x1 := ⟨_, rfl⟩); have hld1 := le_H hat1 (Below.refl _ _) 0; rw [← hC1] at hld1; have HA := Aside0.mk (⟨st, hld1, hC1, ht1, hf1, hr1, by rw [HS3.out.2.2.2, ← hx1, HS3.out.2.2.1]; rfl⟩ : ChSt wb g6 (g6 + 2) s _ (.slice (some ad1) 1 c1) _ wa ∧ (loadVar 85 (ad1.add (0 * 2))).run Tryz.prog wa = .ok (.agg C1) wa ∧ C1 = cH x1 ∧ _ ∧ _ ∧ _ ∧ sumD x1.h = base); clear hva hba hka hza hoa st hrd1 hx1 hat1 ht1 hf1 hr1 hC1 hld1)
   | ((with_reducible refine gate_dst (N := 26) rfl ?_); go_loud (refine wpList_loadv rfl 85 _ rfl _ rfl _ HA.out.2.1 ?_))
   | (go_at_call 41; (with_reducible refine (sumX_calls HA.out.2.2.1 HA.out.2.2.2.1 HA.out.2.2.2.2.1 wa HA.out.2.2.2.2.2.1 base HA.out.2.2.2.2.2.2).mono ?_); rintro e w4 ⟨rfl, hb4⟩; have H4 := Aside0.mk (HA.out.1.next hb4); clear hb4)
   | ((with_reducible refine gate_store (t := 30) (p := 6) rfl ?_); (refine wpList_store_row rfl 30 (.tmp 6) (.tmp 27) rfl g6 (cS base) rfl rfl 30 (cS zS) H4.out.h6 (by rw [cS_size]; kernel_rfl) (by rw [cS_size, cS_size]) (encI_one _) ?_); have HST := Aside0.mk (H4.out.set base); have hx5 := (HCC.out _ (at_next HB.out.1 HST.out.below)).1))
  try rw [heb]
  clear heb hx hx2 hx5
  go_loopw [5, 8] (fun v i wr => ∃ (n : Nat) (v' : Value), v' = v ∧ i = .int .i64 ((n : Int) - 1) ∧ n ≤ p.length ∧ Aside0 (ChSt wb g6 (g6 + 2) s (upL s (p.drop n) n base) v' (baseL e l ++ chL s (p.drop n) n base) wr)) (fun _ i _ => (intOf i + 1).toNat)
  case atStart => exact ⟨p.length, _, rfl, by simp, by omega, by rw [List.drop_length, upL, chL, List.append_nil]; exact HST⟩
  case round =>
   clear HST HTK HSZ HWX HWY HG6 H2 H1
   obtain ⟨n, v, rfl, rfl, hn, HS0⟩ := hrel
   obtain ⟨Av, cv, ev, hrd⟩ := HS0.out.row.rd
   rcases Nat.eq_zero_or_pos n with hn0 | hn0
   ·subst hn0
    have hch : baseL e l ++ chL s (p.drop 0) 0 base = chainOf k p e l := by rw [List.drop_zero, chainOf, HK.out, HBA.out]
    rw [hch] at ev hrd
    subst ev
    have HQ := Aside0.mk (And.intro hrd (HB.out.2.1.trans (HS0.out.below.mono HB.out.2.1.size)))
    clear hrd hch HS0
    go_wp2
    go_ret
    exact ⟨Av, cv, rfl, HQ.out⟩
   ·obtain ⟨m, rfl⟩ : ∃ m, n = m + 1 := ⟨n - 1, by omega⟩
    rw [show (((m + 1 : Nat) : Int) - 1) = (m : Int) by omega]
    have c5b : (m : Int) < (p.length : Int) := by omega
    have c5c := eq_true c5b
    have c5d : ((0 : Int) ≤ (m : Int)) = True := eq_true (by omega)
    obtain ⟨now, hnow⟩ : ∃ x, upL s (p.drop (m + 1)) (m + 1) base = x := ⟨_, rfl⟩
    obtain ⟨o, ho⟩ : ∃ x, p.getD m zS = x := ⟨_, rfl⟩
    have hst := HS0.out
    rw [hnow] at hst
    obtain ⟨ad, eA, hat⟩ := at_flat HB.out.2.2 zS (m : Int) (by omega) c5b
    rw [show ((m : Int).toNat) = m by omega, ho] at hat
    subst eA
    have hk1' := chL_step s p m (by omega) base
    have hk2' := up_step s p m (by omega) base
    rw [ho, hnow] at hk1' hk2'
    have HS := Aside0.mk (⟨hst, hat, ev⟩ : ChSt wb g6 (g6 + 2) s now v _ wr ∧ _ ∧ _)
    have HKS := Aside0.mk (And.intro hk1' hk2')
    have HKL := Aside0.mk (show (baseL e l ++ chL s (p.drop (m + 1)) (m + 1) base).length ≤ 1000 by
     rw [List.length_append, chL_len, List.length_drop, baseL]
     split <;> simp <;> omega)
    clear hst hat hk1' hk2' hnow ho HS0 hrd ev
    have hcx := (HCC.out wr (at_next HB.out.1 HS.out.1.below)).1
    go_wp2
    refine start_ (n := 9) (S := fun w' => Below wr.heap.size wr w') (ds := []) #[false, false, false, false, false, false, false, false, false] (by kernel_rfl) rfl rfl (Below.refl _ _).drew (fun hHeld => ?_)
    refine take_ (i := 0) (N := some 36) (v := .agg (cS now)) (a' := ?_) #[true, false, false, false, false, false, false, false, false] rfl rfl (by kernel_rfl) (fun _ _ _ h => h) (Or.inl ⟨by rfl, fun w' hS => yield_load _ _ rfl _ rfl (ld_S (HS.out.1.next hS).h6 0)⟩) hHeld ?_ ?_
    rotate_left
    ·simp only [Act.put, lZa, lZb, lZc, i64_w, i32_w]
     rfl
    refine pure_ (i := 1) (N := some 37) (v := ?_) (a' := ?_) #[true, true, false, false, false, false, false, false, false] rfl rfl (by kernel_rfl) (fun _ _ _ h => h) (Or.inl ⟨by rfl, ?_⟩) ?_ ?_
    rotate_left
    ·intro w'
     go_simp
     with_reducible rfl
    rotate_left
    ·simp only [Act.put, lZa, lZb, lZc, i64_w, i32_w]
     rfl
    refine take_ (i := 2) (N := some 38) (v := ?_) (a' := ?_) #[true, true, true, false, false, false, false, false, false] rfl rfl (by kernel_rfl) (fun _ _ _ h => h) (Or.inl ⟨by rfl, ?_⟩) hHeld ?_ ?_
    rotate_left
    ·intro w' hS
     have hx := (HCC.out w' (at_next HB.out.1 (HS.out.1.next hS).below)).1
     go_simp
     with_reducible rfl
    rotate_left
    ·simp only [Act.put, lZa, lZb, lZc, i64_w, i32_w]
     rfl
    refine pure_ (i := 3) (N := some 39) (v := ?_) (a' := ?_) #[true, true, true, true, false, false, false, false, false] rfl rfl (by kernel_rfl) (fun _ _ _ h => h) (Or.inl ⟨by rfl, ?_⟩) ?_ ?_
    rotate_left
    ·intro w'
     go_simp
     with_reducible rfl
    rotate_left
    ·simp only [Act.put, lZa, lZb, lZc, i64_w, i32_w]
     rfl
    refine pure_ (i := 4) (N := some 40) (v := ?_) (a' := ?_) #[true, true, true, true, true, false, false, false, false] rfl rfl (by kernel_rfl) (fun _ _ _ h => h) (Or.inl ⟨by rfl, ?_⟩) ?_ ?_
    rotate_left
    ·intro w'
     go_simp
     with_reducible rfl
    rotate_left
    ·simp only [Act.put, lZa, lZb, lZc, i64_w, i32_w]
     rfl
    refine take_ (i := 5) (N := some 41) (v := .agg (cS o)) (a' := ?_) #[true, true, true, true, true, true, false, false, false] rfl rfl (by kernel_rfl) (fun _ _ _ h => h) (Or.inl ⟨by rfl, fun w' hS => yield_load _ _ rfl _ rfl (le_S HS.out.2.1 (HS.out.1.next hS).below 0)⟩) hHeld ?_ ?_
    rotate_left
    ·simp only [Act.put, lZa, lZb, lZc, i64_w, i32_w]
     rfl
    refine makers3_ (n := 8) (f := 2) (fe := 1) #[true, true, true, true, true, true, false, false, false] #[true, true, true, true, true, true, true, true, false] (by kernel_rfl) [36, 37, 38, 39, 40, 41, 42, 9] (by kernel_rfl) (by kernel_rfl) rfl (nodF now o (g6 + 2) wr.drew.heap.size) (fun _ => false) (fun _ h => below_tr hHeld h hHeld.size) (nodF_mono _ _ _ _) ?hstep ?hend
    case hstep =>
     intro i o' hi hu ho' vs w2 hv hb2 hd K hK
     have h0 : vs 0 = .agg (cS now) := hv 0 (by decide) (by decide)
     have h5 : vs 5 = .agg (cS o) := hv 5 (by decide) (by decide)
     have hsz : g6 + 2 ≤ w2.heap.size := Nat.le_trans HS.out.1.lt.2.2 (below_tr hHeld hb2 hHeld.size).size
     simp only [fil2, List.zipIdx_cons, List.zipIdx_nil, List.foldl_cons, List.foldl_nil, lZa, lZb, lZc, Nat.zero_add, Nat.reduceAdd] at hK ⊢
     match i, hi, hu, ho', hK, hd with
     | 6, _, _, ho', hK, hd =>
      obtain rfl : _ = o' := Option.some.inj ho'
      refine gr_go Tryz.func50 (by kernel_rfl) rfl #[.agg (cS now), .agg (cS o)] rfl (by simp only [List.map_toArray, List.map_cons, List.map_nil]; rw [← h0, ← h5]; rfl) ?_
      refine (nodeX_calls now o (g6 + 2) w2 hsz).mono ?_
      rintro e w3 ⟨x, C, hC, hx, rfl, hg, hb3⟩
      exact ⟨_, rfl, hK _ _ ⟨x, C, rfl, hC, hx, hg⟩ hb3 (fun h => by cases h)⟩
     | 7, _, _, ho', hK, hd =>
      obtain rfl : _ = o' := Option.some.inj ho'
      exact gr_alloc 85 (.agg (cH zX)) rfl zero91 (hK _ _ ⟨_, rfl, hb2.size, h_new rfl⟩ (below_alloc (Below.refl _ _) _) (fun h => by cases h))
     | 0, _, hu, _, _, _ => exact absurd hu (by decide)
     | 1, _, hu, _, _, _ => exact absurd hu (by decide)
     | 2, _, hu, _, _, _ => exact absurd hu (by decide)
     | 3, _, hu, _, _, _ => exact absurd hu (by decide)
     | 4, _, hu, _, _, _ => exact absurd hu (by decide)
     | 5, _, hu, _, _, _ => exact absurd hu (by decide)
     | _ + 8, hi, _, _, _, _ => exact absurd hi (by omega)
    case hend =>
     intro vs w6 hv hb6 hF hD
     simp only [fil2, List.zipIdx_cons, List.zipIdx_nil, List.foldl_cons, List.foldl_nil, lZa, lZb, lZc, Nat.zero_add, Nat.reduceAdd]
     obtain ⟨x, C8, f6, hC8, hxh, hg8⟩ : ∃ x C, vs 6 = .agg C ∧ C = cH x ∧ x.h = nodeD now o ∧ Gd (g6 + 2) w6 x := hF 6 (by decide) rfl
     obtain ⟨b9, f7, B9, h9⟩ : ∃ k, vs 7 = .pointer (some ⟨k, 0, none⟩) ∧ wr.drew.heap.size ≤ k ∧ w6.heap[k]? = some (.cells (cH zX) 85 (0, 0)) := hF 7 (by decide) rfl
     rw [f6, f7]
     have hHeld := below_tr hHeld hb6 hHeld.size
     have B9 : wr.heap.size ≤ b9 := B9
     have HB9 := Aside0.mk B9
     clear f6 f7 hF hD hv hb6
     generalize vs 0 = v0
     generalize vs 1 = v1
     generalize vs 2 = v2
     generalize vs 3 = v3
     generalize vs 4 = v4
     generalize vs 5 = v5
     have o8 : C8.all (·.oneCell') = true := by rw [hC8]; exact oneX x
     have z8 : C8.size = 2 := by rw [hC8]; rfl
     refine one_ (i := 8) (N := none) #[true, true, true, true, true, true, true, true, true] rfl rfl (by kernel_rfl) (by decide) (fun K hK => ?_)
     refine st_row (by rfl) rfl 85 (.tmp 9) (.tmp 42) rfl b9 C8 rfl rfl 85 (cH zX) h9 (by rw [z8]; kernel_rfl) (by rw [z8]; rfl) o8 ?_
     refine hK.out _ _ (below_setRow hHeld B9) (fun hHeld => ?_)
     clear hK K
     refine done_ (by kernel_rfl) ?_
     obtain ⟨wz, hwz⟩ : ∃ W, w6.setRow b9 C8 = W := ⟨_, rfl⟩
     have hz9 : wz.heap[b9]? = some (.cells C8 85 (0, 0)) := by rw [← hwz]; exact setRow_heap _ _ _ _ _ _ h9
     have hgz : Gd (g6 + 2) wz x := by rw [← hwz]; exact hg8.keep (Kp.row h9)
     rw [hwz] at hHeld ⊢
     have HZ := Aside0.mk (⟨HS.out.1.next hHeld, hC8, hxh, hz9, hgz, hHeld⟩ : ChSt wb g6 (g6 + 2) s now v _ wz ∧ C8 = cH x ∧ x.h = nodeD now o ∧ _ ∧ Gd (g6 + 2) wz x ∧ Below wr.heap.size wr wz)
     clear hwz hz9 hgz hHeld h9 B9 hC8 hxh hg8 o8 z8
     rcases bitI_01 s m with hbit | hbit
     ·have HBIT := Aside0.mk hbit
      have HNX := Aside0.mk (show sumD x.h = sumD (if bitI s m = 1 then nodeD o now else nodeD now o) by rw [HZ.out.2.2.1, HBIT.out, if_neg (by decide)])
      clear hbit
      go_wp2_with (first
       | ((with_reducible refine gate_dst (N := 43) rfl ?_); (refine wpList_loadv rfl 30 _ rfl _ rfl _ (ld_S HZ.out.1.h7 0) ?_))
       | (go_at_call 29; (refine (bit4_calls s m (by omega) wz).mono ?_); rw [HBIT.out]; rintro e w9 ⟨rfl, hb9⟩; have H9 := Aside0.mk hb9; clear hb9; (obtain ⟨C9, e9⟩ : ∃ C, C = C8 := ⟨_, rfl⟩); (obtain ⟨y, ey⟩ : ∃ y, y = x := ⟨_, rfl⟩); (obtain ⟨nx, hnx⟩ : ∃ nx, sumD x.h = nx := ⟨_, rfl⟩); have HN := Aside0.mk (⟨HZ.out.1.next H9.out, by rw [e9, ey]; exact HZ.out.2.1, by rw [ey, HZ.out.2.2.1, HBIT.out, if_neg (by decide)], by rw [e9]; exact at_next HZ.out.2.2.2.1 H9.out, by rw [ey]; exact HZ.out.2.2.2.2.1.below H9.out⟩ : ChSt wb g6 (g6 + 2) s now v _ w9 ∧ C9 = cH y ∧ y.h = (if bitI s m = 1 then nodeD o now else nodeD now o) ∧ w9.heap[b9]? = some (.cells C9 85 (0, 0)) ∧ Gd (g6 + 2) w9 y); have HNX := Aside0.mk (show sumD y.h = nx by rw [ey]; exact hnx); have HK2 := Aside0.mk (show upL s (p.drop m) m base = nx ∧ baseL e l ++ chL s (p.drop m) m base = baseL e l ++ chL s (p.drop (m + 1)) (m + 1) base ++ [if bitI s m = 1 then nodeD o now else nodeD now o] by rw [HKS.out.1, HKS.out.2, ← HN.out.2.2.1, HNX.out, List.append_assoc]; exact ⟨rfl, rfl⟩); clear e9 ey hnx HBIT; have HLD9 := Aside0.mk (show ∀ W, Below w9.heap.size w9 W → (loadVar 85 ⟨b9, 0, none⟩).run Tryz.prog W = .ok (.agg C9) W from fun W hb => ld_C (w := W) (at_next HN.out.2.2.2.1 hb) y HN.out.2.1))
       | ((with_reducible refine gate_dst (N := 55) rfl ?_); (refine wpList_loadv rfl 85 _ rfl _ rfl _ (HLD9.out w9 (Below.refl _ _)) ?_))
       | ((with_reducible refine gate_dst (N := 56) rfl ?_); (refine bs1_H rfl _ rfl y (by rw [← HN.out.2.1]; rfl) ?_))
       | ((with_reducible refine gate_dst (N := 57) rfl ?_); (refine app_H (wa := wb) rfl (.tmp 54) (.tmp 56) rfl v (baseL e l ++ chL s (p.drop (m + 1)) (m + 1) base) y rfl rfl wb.heap.size (g6 + 2) HN.out.1.row HN.out.2.2.2.2 HN.out.1.below HN.out.1.below.size (by have := HKL.out; omega) ?_); intro v1 wa hva hba hka hza hoa; rw [HN.out.2.2.1] at hva; have st := HN.out.1.app hva hba hka hza; have ha9 := (hoa b9 (Array.getElem?_eq_some_iff.1 HN.out.2.2.2.1).1 (fun e => absurd (Hrow.own HS.out.1.row e.symm) (by have := HB9.out; omega))).trans HN.out.2.2.2.1; have HA := Aside0.mk (⟨st, ld_C ha9 y HN.out.2.1, HN.out.2.2.2.2.keep (Kp.mono hka)⟩ : ChSt wb g6 (g6 + 2) s _ v1 _ wa ∧ (loadVar 85 ⟨b9, 0, none⟩).run Tryz.prog wa = .ok (.agg C9) wa ∧ Gd (g6 + 2) wa y); clear hva hba hka hza hoa st ha9)
       | ((with_reducible refine gate_dst (N := 58) rfl ?_); (refine wpList_loadv rfl 85 _ rfl _ rfl _ HA.out.2.1 ?_))
       | (go_at_call 41; (with_reducible refine (sumG_calls HN.out.2.1 wa HA.out.2.2 nx HNX.out).mono ?_); rintro e w8 ⟨rfl, hb8⟩; have H8 := Aside0.mk (HA.out.1.next hb8); clear hb8)
       | ((with_reducible refine gate_store (t := 30) (p := 6) rfl ?_); (refine wpList_store_row rfl 30 (.tmp 6) (.tmp 59) rfl g6 (cS nx) rfl rfl 30 (cS _) H8.out.h6 (by rw [cS_size]; kernel_rfl) (by rw [cS_size, cS_size]) (encI_one _) ?_)))
      exact ⟨⟨m, v1, rfl, rfl, by omega, by rw [HK2.out.1, HK2.out.2]; exact ⟨H8.out.set nx⟩⟩, by simp [intOf]⟩
     ·have HBIT := Aside0.mk hbit
      clear hbit
      have hcz := (HCC.out wz (at_next HB.out.1 HZ.out.1.below)).1
      go_wp2_with (first
       | ((with_reducible refine gate_dst (N := 43) rfl ?_); (refine wpList_loadv rfl 30 _ rfl _ rfl _ (ld_S HZ.out.1.h7 0) ?_))
       | (go_at_call 29; (refine (bit4_calls s m (by omega) wz).mono ?_); rw [HBIT.out]; rintro e wt ⟨rfl, hbt⟩; have HT := Aside0.mk (⟨HZ.out.1.next hbt, at_next HZ.out.2.2.2.1 hbt, below_tr HZ.out.2.2.2.2.2 hbt HZ.out.2.2.2.2.2.size⟩ : ChSt wb g6 (g6 + 2) s now v _ wt ∧ _ ∧ _); clear hbt hcz))
      refine start_ (n := 8) (S := fun w' => Below wt.heap.size wt w') (ds := [7]) #[false, false, false, false, false, false, false, false] (by kernel_rfl) rfl rfl (Below.refl _ _).drew (fun hHeld => ?_)
      refine pure_ (i := 0) (N := some 47) (v := ?_) (a' := ?_) #[true, false, false, false, false, false, false, false] rfl rfl (by kernel_rfl) (fun _ _ _ h => h) (Or.inl ⟨by rfl, ?_⟩) ?_ ?_
      rotate_left
      ·intro w'
       go_simp
       with_reducible rfl
      rotate_left
      ·simp only [Act.put, lZa, lZb, lZc, i64_w, i32_w]
       rfl
      refine take_ (i := 1) (N := some 48) (v := ?_) (a' := ?_) #[true, true, false, false, false, false, false, false] rfl rfl (by kernel_rfl) (fun _ _ _ h => h) (Or.inl ⟨by rfl, ?_⟩) hHeld ?_ ?_
      rotate_left
      ·intro w' hS
       have hx := (HCC.out w' (at_next HB.out.1 (HT.out.1.next hS).below)).1
       go_simp
       with_reducible rfl
      rotate_left
      ·simp only [Act.put, lZa, lZb, lZc, i64_w, i32_w]
       rfl
      refine pure_ (i := 2) (N := some 49) (v := ?_) (a' := ?_) #[true, true, true, false, false, false, false, false] rfl rfl (by kernel_rfl) (fun _ _ _ h => h) (Or.inl ⟨by rfl, ?_⟩) ?_ ?_
      rotate_left
      ·intro w'
       go_simp
       with_reducible rfl
      rotate_left
      ·simp only [Act.put, lZa, lZb, lZc, i64_w, i32_w]
       rfl
      refine pure_ (i := 3) (N := some 50) (v := ?_) (a' := ?_) #[true, true, true, true, false, false, false, false] rfl rfl (by kernel_rfl) (fun _ _ _ h => h) (Or.inl ⟨by rfl, ?_⟩) ?_ ?_
      rotate_left
      ·intro w'
       go_simp
       with_reducible rfl
      rotate_left
      ·simp only [Act.put, lZa, lZb, lZc, i64_w, i32_w]
       rfl
      refine take_ (i := 4) (N := some 51) (v := .agg (cS o)) (a' := ?_) #[true, true, true, true, true, false, false, false] rfl rfl (by kernel_rfl) (fun _ _ _ h => h) (Or.inl ⟨by rfl, fun w' hS => yield_load _ _ rfl _ rfl (le_S HS.out.2.1 (HT.out.1.next hS).below 0)⟩) hHeld ?_ ?_
      rotate_left
      ·simp only [Act.put, lZa, lZb, lZc, i64_w, i32_w]
       rfl
      refine take_ (i := 5) (N := some 52) (v := .agg (cS now)) (a' := ?_) #[true, true, true, true, true, true, false, false] rfl rfl (by kernel_rfl) (fun _ _ _ h => h) (Or.inl ⟨by rfl, fun w' hS => yield_load _ _ rfl _ rfl (ld_S (HT.out.1.next hS).h6 0)⟩) hHeld ?_ ?_
      rotate_left
      ·simp only [Act.put, lZa, lZb, lZc, i64_w, i32_w]
       rfl
      refine one_ (i := 6) (N := some 53) #[true, true, true, true, true, true, true, false] rfl rfl (by kernel_rfl) (by decide) (fun K hK => ?_)
      refine goes_ Tryz.func50 (by kernel_rfl) rfl #[.agg (cS o), .agg (cS now)] (by rfl) rfl rfl (by simp only [List.map_toArray, List.map_cons, List.map_nil]; rfl) ?_
      refine (nodeX_calls o now (g6 + 2) _ (HT.out.1.next hHeld).lt.2.2).mono ?_
      rintro e wu ⟨y, C9, hC9, hyh, rfl, hgu, hbu⟩
      refine ⟨_, rfl, ?_⟩
      have hHu := below_tr hHeld hbu hHeld.size
      refine hK.out _ _ (below_tr hHeld hbu hHeld.size) (fun hHeld => ?_)
      clear hK K
      refine norm_ (a' := ?_) ?_ ?_
      rotate_left
      ·show Act.put _ (some 53) _ = _
       simp only [Act.put, lZa, lZb, lZc, i64_w, i32_w]
       rfl
      have o9 : C9.all (·.oneCell') = true := by rw [hC9]; exact oneX y
      have z9 : C9.size = 2 := by rw [hC9]; rfl
      have hu9 := at_next HT.out.2.1 hHu
      have hb9t : wr.heap.size ≤ b9 := HB9.out
      refine last_ (i := 7) (N := none) #[true, true, true, true, true, true, true, true] rfl rfl (by kernel_rfl) (by decide) (fun K hK => ?_)
      refine st_row (by rfl) rfl 85 (.tmp 9) (.tmp 53) rfl b9 C9 rfl rfl 85 C8 hu9 (by rw [z9]; kernel_rfl) (by rw [z9, HZ.out.2.1]; rfl) o9 ?_
      have hHw := below_setRow (cs := C9) (below_tr HT.out.2.2 hHu HT.out.2.2.size) HB9.out
      refine hK.out _ _ ?_
      clear hK K
      refine done_ (by kernel_rfl) ?_
      obtain ⟨w9, hw9⟩ : ∃ W, wu.setRow b9 C9 = W := ⟨_, rfl⟩
      have hz9 : w9.heap[b9]? = some (.cells C9 85 (0, 0)) := by rw [← hw9]; exact setRow_heap _ _ _ _ _ _ hu9
      have hg9 : Gd (g6 + 2) w9 y := by rw [← hw9]; exact hgu.keep (Kp.row hu9)
      rw [hw9] at hHw ⊢
      obtain ⟨nx, hnx⟩ : ∃ nx, sumD y.h = nx := ⟨_, rfl⟩
      have HN := Aside0.mk (⟨HS.out.1.next hHw, hC9, by rw [hyh, HBIT.out, if_pos rfl], hz9, hg9⟩ : ChSt wb g6 (g6 + 2) s now v _ w9 ∧ C9 = cH y ∧ y.h = (if bitI s m = 1 then nodeD o now else nodeD now o) ∧ w9.heap[b9]? = some (.cells C9 85 (0, 0)) ∧ Gd (g6 + 2) w9 y)
      have HNX := Aside0.mk hnx
      have HK2 := Aside0.mk (show upL s (p.drop m) m base = nx ∧ baseL e l ++ chL s (p.drop m) m base = baseL e l ++ chL s (p.drop (m + 1)) (m + 1) base ++ [if bitI s m = 1 then nodeD o now else nodeD now o] by rw [HKS.out.1, HKS.out.2, ← HN.out.2.2.1, HNX.out, List.append_assoc]; exact ⟨rfl, rfl⟩)
      have HLD9 := Aside0.mk (show ∀ W, Below w9.heap.size w9 W → (loadVar 85 ⟨b9, 0, none⟩).run Tryz.prog W = .ok (.agg C9) W from fun W hb => ld_C (w := W) (at_next HN.out.2.2.2.1 hb) y HN.out.2.1)
      clear hw9 hz9 hg9 hHw hHeld hu9 o9 z9 hHu hC9 hyh hgu hbu hnx HBIT HT
      go_wp2_with (first
       | ((with_reducible refine gate_dst (N := 55) rfl ?_); (refine wpList_loadv rfl 85 _ rfl _ rfl _ (HLD9.out w9 (Below.refl _ _)) ?_))
       | ((with_reducible refine gate_dst (N := 56) rfl ?_); (refine bs1_H rfl _ rfl y (by rw [← HN.out.2.1]; rfl) ?_))
       | ((with_reducible refine gate_dst (N := 57) rfl ?_); (refine app_H (wa := wb) rfl (.tmp 54) (.tmp 56) rfl v (baseL e l ++ chL s (p.drop (m + 1)) (m + 1) base) y rfl rfl wb.heap.size (g6 + 2) HN.out.1.row HN.out.2.2.2.2 HN.out.1.below HN.out.1.below.size (by have := HKL.out; omega) ?_); intro v1 wa hva hba hka hza hoa; rw [HN.out.2.2.1] at hva; have st := HN.out.1.app hva hba hka hza; have ha9 := (hoa b9 (Array.getElem?_eq_some_iff.1 HN.out.2.2.2.1).1 (fun e => absurd (Hrow.own HS.out.1.row e.symm) (by have := HB9.out; omega))).trans HN.out.2.2.2.1; have HA := Aside0.mk (⟨st, ld_C ha9 y HN.out.2.1, HN.out.2.2.2.2.keep (Kp.mono hka)⟩ : ChSt wb g6 (g6 + 2) s _ v1 _ wa ∧ (loadVar 85 ⟨b9, 0, none⟩).run Tryz.prog wa = .ok (.agg C9) wa ∧ Gd (g6 + 2) wa y); clear hva hba hka hza hoa st ha9)
       | ((with_reducible refine gate_dst (N := 58) rfl ?_); (refine wpList_loadv rfl 85 _ rfl _ rfl _ HA.out.2.1 ?_))
       | (go_at_call 41; (with_reducible refine (sumG_calls HN.out.2.1 wa HA.out.2.2 nx HNX.out).mono ?_); rintro e w8 ⟨rfl, hb8⟩; have H8 := Aside0.mk (HA.out.1.next hb8); clear hb8)
       | ((with_reducible refine gate_store (t := 30) (p := 6) rfl ?_); (refine wpList_store_row rfl 30 (.tmp 6) (.tmp 59) rfl g6 (cS nx) rfl rfl 30 (cS _) H8.out.h6 (by rw [cS_size]; kernel_rfl) (by rw [cS_size, cS_size]) (encI_one _) ?_)))
      exact ⟨⟨m, v1, rfl, rfl, by omega, by rw [HK2.out.1, HK2.out.2]; exact ⟨H8.out.set nx⟩⟩, by simp [intOf]⟩
end Go.Proofs.YtanabbjakacgbaaGreatDoor.Sp
namespace Go.Proofs.YtanabbjakacgbaaGreatDoor.Sp
open Go.RowKit Go.Proofs.YtanabbjakacgbaaGreatDoorW.PrintWords Go.Proofs.YtanabbjakacgbaaGreatDoorW.PrintLast Go.Proofs.YtanabbjakacgbaaGreatDoorW.PrintMore Go.Proofs.YtanabbjakacgbaaGreatDoor.PM Go.Proofs.YtanabbjakacgbaaGreatDoor.Grow
set_option linter.unusedVariables false
set_option linter.unusedSimpArgs false
set_option maxRecDepth 100000
attribute [local go_sem] Oper.semAt_some
theorem agree_symm (a b : Sm) (n : Nat) : agree a b n = agree b a n := by
 rw [agree, agree]
 congr 1
 funext i
 by_cases h : bitI a i = bitI b i
 ·rw [decide_eq_true h, decide_eq_true h.symm]
 ·rw [decide_eq_false h, decide_eq_false (fun e => h e.symm)]
set_option maxHeartbeats 4000000 in
theorem right4_calls (k : ByteArray) (hk1 : k.size ≤ 200000) (A : Option Addr) (n c : Nat) (hn : n ≤ 1000000) (e : Int) (l : Lf) (hl1 : l.k.size ≤ 200000) (w : World) :
  Calls Tryz.prog 39 #[.string k, .agg (cP (.slice A n c) e l)] w fun r w' => r = .returned (.bool (rightB k n e l)) ∧ Below w.heap.size w w' := by
 obtain ⟨g, hg⟩ : ∃ g, g = w.heap.size := ⟨_, rfl⟩
 obtain ⟨wb, hwb⟩ : ∃ wb, w.alloc (.cells (cP (.slice A n c) e l) 34) = wb := ⟨_, rfl⟩
 have h0 : wb.heap[g]? = some (.cells (cP (.slice A n c) e l) 34 (0, 0)) := by rw [← hwb]; exact h_new hg
 have hb : Below w.heap.size w wb := by rw [← hwb]; exact below_alloc (Below.refl _ _) _
 have hs : wb.heap.size = g + 1 := by rw [← hwb, size_alloc, hg]
 have HB := Aside0.mk (⟨h0, hb, hs, trivial⟩ : _ ∧ _ ∧ _ ∧ True)
 have HWB := Aside0.mk hwb
 have HG := Aside0.mk hg
 have hc0 := cell_P0 h0
 have hc1 := cell_P1 h0
 have hc2 := cell_P2 h0
 obtain ⟨C, hC⟩ : ∃ C, C = cP (.slice A n c) e l := ⟨_, rfl⟩
 rw [← hC] at HWB ⊢
 clear h0 hb hs hwb hg hC
 go_enter Tryz.func39, Tryz.ntmps39
 by_cases h1 : n ≤ 256
 ·have h1b : ¬ (256 : Int) < (n : Int) := by omega
  have hd1 : decide (n ≤ 256) = true := decide_eq_true h1
  by_cases e0 : e = 0
  ·subst e0
   have hle : (loadVar 32 ⟨g, 2, none⟩).run Tryz.prog wb = .ok (.agg (cL l)) wb := le_L (cells_P2 HB.out.1) (Below.refl _ _) 0
   have hres : rightB k n 0 l = decide (l = zL) := by rw [rightB, hd1]; simp
   have HRES := Aside0.mk hres
   clear hres
   go_wp2_with (first
    | ((with_reducible refine gate_dst (N := 8) rfl ?_); (refine at_world (w' := wb) HWB.out ?_); rw [← HG.out])
    | ((with_reducible refine gate_dst (N := 17) rfl ?_); refine wpList_loadv rfl _ _ rfl _ rfl _ hle ?_)
    | ((with_reducible refine gate_dst (N := 18) rfl ?_); (refine wpList_built0 rfl 32 rfl (cL zL) (by kernel_rfl) ?_))
    | (refine wpList_eql rfl _ _ _ _ rfl _ _ rfl rfl gt_L _ (fun w => eqL w _ _) ?_))
   go_ret
   exact ⟨by rw [HRES.out]; rfl, HB.out.2.1⟩
  ·have e0b : (e == 0) = false := by simp [e0]
   by_cases e1 : e = 1
   ·subst e1
    have hres : rightB k n 1 l = decide (l.k = k) := by rw [rightB, hd1]; simp
    have HRES := Aside0.mk hres
    clear hres
    go_wp2_with (first
     | ((with_reducible refine gate_dst (N := 8) rfl ?_); (refine at_world (w' := wb) HWB.out ?_); rw [← HG.out]))
    go_ret
    refine ⟨?_, HB.out.2.1⟩
    rw [HRES.out]
    by_cases hq : l.k = k
    ·simp [hq]
    ·have h2 : ¬ l.k.toList = k.toList := fun h => hq (toList_inj.1 h)
     simp [hq, h2]
   ·have e1b : (e == 1) = false := by simp [e1]
    obtain ⟨a, ha⟩ : ∃ a, hk l.k = a := ⟨_, rfl⟩
    obtain ⟨b, hbb⟩ : ∃ b, hk k = b := ⟨_, rfl⟩
    obtain ⟨q2, hq2⟩ : ∃ q, (e == 2) = q := ⟨_, rfl⟩
    obtain ⟨qk, hqk⟩ : ∃ q, (l.k.toList == k.toList) = q := ⟨_, rfl⟩
    have hres : rightB k n e l = (agree a b n && (q2 && !qk)) := by
     rw [rightB, hd1, if_neg e0, if_neg e1, ← hq2, ← hqk, ba_beq, ← ha, ← hbb, agree_symm]
     by_cases h : l.k = k
     ·simp [h]
     ·simp [h]
      rfl
    have HRES := Aside0.mk (⟨hres, ha, hbb, hq2, hqk⟩ : _ ∧ _ ∧ _ ∧ _ ∧ _)
    have HC2 := Aside0.mk hc2
    clear hres e0 e1 ha hbb hq2 hqk
    go_wp2_with (first
     | ((with_reducible refine gate_dst (N := 8) rfl ?_); (refine at_world (w' := wb) HWB.out ?_); rw [← HG.out])
     | ((with_reducible refine gate_dst (N := 30) rfl ?_); (refine wpList_str rfl (.tmp 29) rfl l.k rfl Tryz.underlying9 Tryz.underlying53 Tryz.underlying5 ?_))
     | (go_at_call 27; (with_reducible refine (sumK3_calls l.k (by omega) wb).mono ?_); rw [HRES.out.2.1]; rintro e w2 ⟨rfl, hb2⟩; have H2 := Aside0.mk (below_tr (bytes_below' wb l.k) hb2 (bytes_below' wb l.k).size); clear hb2)
     | ((with_reducible refine gate_dst (N := 33) rfl ?_); (refine wpList_str rfl (.tmp 32) rfl k rfl Tryz.underlying9 Tryz.underlying53 Tryz.underlying5 ?_))
     | (go_at_call 27; (with_reducible refine (sumK3_calls k (by omega) w2).mono ?_); rw [HRES.out.2.2.1]; rintro e w3 ⟨rfl, hb3⟩; have H3 := Aside0.mk (below_tr H2.out (below_tr (bytes_below' w2 k) hb3 (bytes_below' w2 k).size) H2.out.size); clear hb3)
     | ((with_reducible refine gate_dst (N := 5) rfl ?_); (refine wpList_allocz rfl 30 (cS zS) rfl zero27 ?_))
     | ((with_reducible refine gate_dst (N := 6) rfl ?_); (refine wpList_allocz rfl 30 (cS zS) rfl zero27 ?_); rw [size_alloc]; obtain ⟨g5, hg5⟩ : ∃ g, g = w3.heap.size := ⟨_, rfl⟩; obtain ⟨wx, hwx⟩ : ∃ wx, (w3.alloc (.cells (cS zS) 30)).alloc (.cells (cS zS) 30) = wx := ⟨_, rfl⟩; obtain ⟨wy, hwy⟩ : ∃ wy, (wx.setRow g5 (cS a)).setRow (g5 + 1) (cS b) = wy := ⟨_, rfl⟩; have HTK := Aside0.mk (two_kinds hg5 hwx hwy); have HWX := Aside0.mk hwx; have HWY := Aside0.mk hwy; rw [← hg5]; clear hwx hwy hg5)
     | ((with_reducible refine gate_store (t := 30) (p := 5) rfl ?_); rw [HWX.out]; (refine wpList_store_row rfl 30 (.tmp 5) (.tmp 31) rfl g5 (cS a) rfl rfl 30 (cS zS) HTK.out.1 (by rw [cS_size]; kernel_rfl) (by rw [cS_size, cS_size]) (encI_one _) ?_))
     | ((with_reducible refine gate_store (t := 30) (p := 6) rfl ?_); (refine wpList_store_row rfl 30 (.tmp 6) (.tmp 34) rfl (g5 + 1) (cS b) rfl rfl 30 (cS zS) HTK.out.2.1 (by rw [cS_size]; kernel_rfl) (by rw [cS_size, cS_size]) (encI_one _) ?_); (refine at_world (w' := wy) HWY.out ?_); have HY := Aside0.mk (⟨HTK.out.2.2.1, HTK.out.2.2.2.1, below_tr H3.out HTK.out.2.2.2.2 H3.out.size⟩ : wy.heap[g5]? = some (.cells (cS a) 30 (0, 0)) ∧ wy.heap[g5 + 1]? = some (.cells (cS b) 30 (0, 0)) ∧ Below wb.heap.size wb wy); refine pause_ ?_))
    clear HTK HWX HWY H2 H3 e0b e1b
    refine unpause_ ?_
    go_wp2
    go_loopw [7] (fun i wr => ∃ m : Nat, i = .int .i64 (m : Int) ∧ m ≤ n ∧ Aside0 (∀ j, j < m → bitI a j = bitI b j) ∧ Aside0 (Below wy.heap.size wy wr)) (fun i _ => n - (intOf i).toNat)
    case atStart => exact ⟨0, rfl, by omega, ⟨fun j hj => by omega⟩, ⟨Below.refl _ _⟩⟩
    case round =>
     obtain ⟨m, rfl, hm, HV, HR⟩ := hrel
     have hbr : Below wb.heap.size wb wr := below_tr HY.out.2.2 HR.out HY.out.2.2.size
     have HBR := Aside0.mk hbr
     have hy0 : wr.cell? ⟨g, 0, none⟩ = some (.slice A n c) := (World.cell?_of_block (hbr.block g (by have := HB.out.2.2.1; omega))).trans hc0
     clear hbr
     by_cases c5 : m < n
     ·have c5b : (m : Int) < (n : Int) := by omega
      have hm2 : m < 256 := by omega
      have H56 := Aside0.mk (And.intro (at_next HY.out.1 HR.out) (at_next HY.out.2.1 HR.out))
      obtain ⟨p, hp⟩ : ∃ p, bitI a m = p := ⟨_, rfl⟩
      obtain ⟨q, hq⟩ : ∃ q, bitI b m = q := ⟨_, rfl⟩
      have HPQ := Aside0.mk (And.intro hp hq)
      clear hp hq
      go_wp2
      clear hy0
      refine start_ (n := 7) (S := fun w' => Below wr.heap.size wr w') (ds := []) #[false, false, false, false, false, false, false] (by kernel_rfl) rfl rfl (Below.refl _ _).drew (fun hHeld => ?_)
      refine take_ (i := 0) (N := some 42) (v := .agg (cS a)) (a' := ?_) #[true, false, false, false, false, false, false] rfl rfl (by kernel_rfl) (fun _ _ _ h => h) (Or.inl ⟨by rfl, fun w' hS => yield_load _ _ rfl _ rfl (ld_S (at_next H56.out.1 hS) 0)⟩) hHeld ?_ ?_
      rotate_left
      ·simp only [Act.put, lZa, lZb, lZc, i64_w, i32_w]
       rfl
      refine pure_ (i := 1) (N := some 43) (v := ?_) (a' := ?_) #[true, true, false, false, false, false, false] rfl rfl (by kernel_rfl) (fun _ _ _ h => h) (Or.inl ⟨by rfl, ?_⟩) ?_ ?_
      rotate_left
      ·intro w'
       go_simp
       with_reducible rfl
      rotate_left
      ·simp only [Act.put, lZa, lZb, lZc, i64_w, i32_w]
       rfl
      refine take_ (i := 3) (N := some 45) (v := .agg (cS b)) (a' := ?_) #[true, true, false, true, false, false, false] rfl rfl (by kernel_rfl) (fun _ _ _ h => h) (Or.inl ⟨by rfl, fun w' hS => yield_load _ _ rfl _ rfl (ld_S (at_next H56.out.2 hS) 0)⟩) hHeld ?_ ?_
      rotate_left
      ·simp only [Act.put, lZa, lZb, lZc, i64_w, i32_w]
       rfl
      refine pure_ (i := 4) (N := some 46) (v := ?_) (a' := ?_) #[true, true, false, true, true, false, false] rfl rfl (by kernel_rfl) (fun _ _ _ h => h) (Or.inl ⟨by rfl, ?_⟩) ?_ ?_
      rotate_left
      ·intro w'
       go_simp
       with_reducible rfl
      rotate_left
      ·simp only [Act.put, lZa, lZb, lZc, i64_w, i32_w]
       rfl
      refine one_ (i := 2) (N := some 44) #[true, true, true, true, true, false, false] rfl rfl (by kernel_rfl) (by decide) (fun K hK => ?_)
      refine goes_ Tryz.func29 (by kernel_rfl) rfl #[.agg (cS a), .int .i64 (m : Int)] (by rfl) rfl rfl (by simp only [List.map_toArray, List.map_cons, List.map_nil]; rfl) ?_
      refine (bit4_calls a m hm2 _).mono ?_
      rw [HPQ.out.1]
      rintro r w3 ⟨rfl, hb3⟩
      refine ⟨_, rfl, ?_⟩
      refine hK.out _ _ (below_tr hHeld hb3 hHeld.size) (fun hHeld => ?_)
      clear hK K
      refine norm_ (a' := ?_) ?_ ?_
      rotate_left
      ·show Act.put _ (some 44) _ = _
       simp only [Act.put, lZa, lZb, lZc, i64_w, i32_w]
       rfl
      refine one_ (i := 5) (N := some 47) #[true, true, true, true, true, true, false] rfl rfl (by kernel_rfl) (by decide) (fun K hK => ?_)
      refine goes_ Tryz.func29 (by kernel_rfl) rfl #[.agg (cS b), .int .i64 (m : Int)] (by rfl) rfl rfl (by simp only [List.map_toArray, List.map_cons, List.map_nil]; rfl) ?_
      refine (bit4_calls b m hm2 w3).mono ?_
      rw [HPQ.out.2]
      rintro r w4 ⟨rfl, hb4⟩
      refine ⟨_, rfl, ?_⟩
      refine hK.out _ _ (below_tr hHeld hb4 hHeld.size) (fun hHeld => ?_)
      clear hK K
      refine norm_ (a' := ?_) ?_ ?_
      rotate_left
      ·show Act.put _ (some 47) _ = _
       simp only [Act.put, lZa, lZb, lZc, i64_w, i32_w]
       rfl
      have H4 := Aside0.mk (below_tr HR.out hHeld HR.out.size)
      have H5 := Aside0.mk (HB.out.2.1.trans ((below_tr HBR.out hHeld HBR.out.size).mono (by have := HB.out.2.1.size; omega)))
      clear hHeld hb3 hb4
      refine pure_ (i := 6) (N := some 48) (v := ?_) (a' := ?_) #[true, true, true, true, true, true, true] rfl rfl (by kernel_rfl) (fun _ _ _ h => h) (Or.inl ⟨by rfl, ?_⟩) ?_ ?_
      rotate_left
      ·intro w'
       go_simp
       with_reducible rfl
      rotate_left
      ·simp only [Act.put, lZa, lZb, lZc, i64_w, i32_w]
       rfl
      refine done_ (by kernel_rfl) ?_
      by_cases hpq : p = q
      ·have hpq2 : (p != q) = false := by simp [hpq]
       go_wp2
       refine ⟨⟨m + 1, by simp, by omega, ⟨fun j hj => ?_⟩, H4⟩, by simp [intOf]; omega⟩
       by_cases hjm : j = m
       ·subst hjm
        rw [HPQ.out.1, HPQ.out.2, hpq]
       ·exact HV.out j (by omega)
      ·have hpq2 : (p != q) = true := by simp [hpq]
       have hres2 : agree a b n = false := agree_f m c5 (by rw [HPQ.out.1, HPQ.out.2]; exact hpq)
       go_wp2
       go_ret
       exact ⟨by rw [HRES.out.1, hres2]; rfl, H5.out⟩
     ·have c5b : ¬ (m : Int) < (n : Int) := by omega
      have hres2 : agree a b n = true := agree_t (fun i hi => HV.out i (by omega))
      have hx2 := (World.cell?_of_block (HBR.out.block g (by have := HB.out.2.2.1; omega))).trans HC2.out
      have hx1 := (World.cell?_of_block (HBR.out.block g (by have := HB.out.2.2.1; omega))).trans hc1
      have H5 := Aside0.mk (HB.out.2.1.trans (HBR.out.mono (by have := HB.out.2.1.size; omega)))
      have h2 := HRES.out.2.2.2.1
      have hk2 := HRES.out.2.2.2.2
      have HRS := Aside0.mk (HRES.out.1.trans (by rw [hres2, Bool.true_and]))
      clear HRES hres2
      cases q2 with
      | true =>
       go_wp2
       go_ret
       exact ⟨by rw [HRS.out]; simp, H5.out⟩
      | false =>
       go_wp2
       go_ret
       exact ⟨by rw [HRS.out]; simp, H5.out⟩
 ·have h1b : (256 : Int) < (n : Int) := by omega
  have hres : rightB k n e l = false := by rw [rightB, decide_eq_false h1]; simp
  have HRES := Aside0.mk hres
  clear hres
  go_wp2_with (first
   | ((with_reducible refine gate_dst (N := 8) rfl ?_); (refine at_world (w' := wb) HWB.out ?_); rw [← HG.out]))
  go_ret
  exact ⟨by rw [HRES.out]; rfl, HB.out.2.1⟩
end Go.Proofs.YtanabbjakacgbaaGreatDoor.Sp
namespace Go.Proofs.YtanabbjakacgbaaGreatDoor.Sp
open Go.RowKit Go.Proofs.YtanabbjakacgbaaGreatDoorW.PrintWords Go.Proofs.YtanabbjakacgbaaGreatDoorW.PrintLast Go.Proofs.YtanabbjakacgbaaGreatDoorW.PrintMore Go.Proofs.YtanabbjakacgbaaGreatDoor.PM Go.Proofs.YtanabbjakacgbaaGreatDoor.Grow
set_option linter.unusedVariables false
set_option linter.unusedSimpArgs false
set_option maxRecDepth 100000
attribute [local go_sem] Oper.semAt_some
theorem last_app (L : List Hd) (x : Hd) : (L ++ [x]).getD ((L ++ [x]).length - 1) zD = x := by simp
theorem chain_last (k : ByteArray) (p : List Sm) (e : Int) (l : Lf) : ((chainOf k p e l).length = 0 → topOf k p e l = zS) ∧ (0 < (chainOf k p e l).length → sumD ((chainOf k p e l).getD ((chainOf k p e l).length - 1) zD) = topOf k p e l) := by
 cases p with
 | nil =>
  rw [chainOf, chL, List.append_nil, baseL]
  by_cases h : e = 0
  ·rw [if_pos h]
   exact ⟨fun _ => by rw [topOf, if_pos h]; rfl, fun h => absurd h (Nat.lt_irrefl _)⟩
  ·rw [if_neg h]
   refine ⟨fun h => by simp at h, fun _ => ?_⟩
   rw [topOf, if_neg h]
   rfl
 | cons o p =>
  rw [chainOf, chL, ← List.append_assoc]
  refine ⟨fun h => by rw [List.length_append] at h; simp at h, fun _ => ?_⟩
  rw [last_app, top_eq, up_node]
theorem ckOf_no {root : Sm} {k : ByteArray} {p : List Sm} {e : Int} {l : Lf} (h : rightB k p.length e l = false) : ckOf root k p e l = zK := by unfold ckOf checkB; rw [if_pos h]; rfl
theorem ckOf_ne {root : Sm} {k : ByteArray} {p : List Sm} {e : Int} {l : Lf} (h : rightB k p.length e l = true) (h2 : ¬ topOf k p e l = root) : ckOf root k p e l = zK := by unfold ckOf checkB; rw [if_neg (by rw [h]; simp), if_pos h2]; rfl
theorem ckOf_yes {root : Sm} {k : ByteArray} {p : List Sm} {l : Lf} (h : rightB k p.length 1 l = true) (h2 : topOf k p 1 l = root) : ckOf root k p 1 l = ⟨l.v, true, true⟩ := by unfold ckOf checkB; rw [if_neg (by rw [h]; simp), if_neg (by simpa using h2), if_pos rfl]
theorem ckOf_other {root : Sm} {k : ByteArray} {p : List Sm} {e : Int} {l : Lf} (h : rightB k p.length e l = true) (h2 : topOf k p e l = root) (he : ¬ e = 1) : ckOf root k p e l = ⟨zS, false, true⟩ := by unfold ckOf checkB; rw [if_neg (by rw [h]; simp), if_neg (by simpa using h2), if_neg he]
theorem built_K0 : Tryz.prog.built 45 [] = some (cK zK) := by kernel_rfl
theorem built_Ko : Tryz.prog.built 45 [(2, .bool true)] = some (cK ⟨zS, false, true⟩) := by kernel_rfl
section
variable {ops : Array Oper} {rest : List Oper} {o : Oper} {a : Act} {Q : Exit → Act → World → Prop} {w : World}
theorem bld_Ko (hg : o.guard = none) (ho : o.op = .build 45 #[(2, .const (.bool true))]) (h : wpList Tryz.prog ops Q rest (a.put o.dst (.agg (cK ⟨zS, false, true⟩))) w) : wpList Tryz.prog ops Q (o :: rest) a w := by
 refine wpList_built hg 45 _ ho (cK ⟨zS, false, true⟩) ?_ h
 have hc : a.eval (.const (.bool true)) = .bool true := rfl
 have e : (Array.map (fun x : Nat × Operand => (x.1, a.eval x.2)) #[(2, .const (.bool true))]).toList = [(2, .bool true)] := by simp [hc]
 rw [e]
 exact built_Ko
end
theorem zeroKc : ∀ w, (zeroValue 45).run Tryz.prog w = .ok (.agg (cK zK)) w := by
 intro w
 have hh : (Tryz.prog.info? 45).map (fun i => (i.zero, i.size)) = some (some (.agg (cK zK)), 34) := by kernel_rfl
 cases hq : Tryz.prog.info? 45 with
 | none => simp [hq] at hh
 | some i =>
  rw [hq, Option.map_some] at hh
  injection hh with hh
  simp only [Prod.mk.injEq] at hh
  simp [zeroValue, typeInfo, hq, hh.1, go_sem]
set_option maxHeartbeats 4000000 in
theorem Check4_calls (root : Sm) (k : ByteArray) (hk1 : k.size ≤ 100000) (A : Option Addr) (p : List Sm) (c : Nat) (hp : p.length ≤ 100000) (e : Int) (l : Lf) (hl1 : l.k.size ≤ 100000) (w : World) (hr : kS.C w A p.length p) :
  Calls Tryz.prog 17 #[.agg (cS root), .string k, .agg (cP (.slice A p.length c) e l)] w fun r w' => r = .returned (.agg (cK (ckOf root k p e l))) ∧ Below w.heap.size w w' := by
 have hu30 := Tryz.underlying45
 obtain ⟨g, hg⟩ : ∃ g, g = w.heap.size := ⟨_, rfl⟩
 obtain ⟨C, hC⟩ : ∃ C, C = cP (.slice A p.length c) e l := ⟨_, rfl⟩
 obtain ⟨wb, hwb⟩ : ∃ wb, ((w.alloc (.cells (cS root) 30)).alloc (.cells C 34)).alloc (.cells (cK zK) 45) = wb := ⟨_, rfl⟩
 have h0 : wb.heap[g]? = some (.cells (cS root) 30 (0, 0)) := by rw [← hwb, h_old (by simp only [size_alloc]; omega), h_old (by simp only [size_alloc]; omega)]; exact h_new hg
 have h1 : wb.heap[g + 1]? = some (.cells (cP (.slice A p.length c) e l) 34 (0, 0)) := by rw [← hwb, ← hC, h_old (by simp only [size_alloc]; omega)]; exact h_new (by rw [size_alloc, hg])
 have h2 : wb.heap[g + 2]? = some (.cells (cK zK) 45 (0, 0)) := by rw [← hwb]; exact h_new (by rw [size_alloc, size_alloc, hg])
 have hb : Below w.heap.size w wb := by rw [← hwb]; exact below_alloc (below_alloc (below_alloc (Below.refl _ _) _) _) _
 have hs : wb.heap.size = g + 3 := by rw [← hwb, size_alloc, size_alloc, size_alloc, hg]
 have HB := Aside0.mk (⟨h0, h1, h2, hb, hs, Kd.C_below hr hb, hg⟩ : wb.heap[g]? = some (.cells (cS root) 30 (0, 0)) ∧ wb.heap[g + 1]? = some (.cells (cP (.slice A p.length c) e l) 34 (0, 0)) ∧ wb.heap[g + 2]? = some (.cells (cK zK) 45 (0, 0)) ∧ Below w.heap.size w wb ∧ wb.heap.size = g + 3 ∧ kS.C wb A p.length p ∧ g = w.heap.size)
 have HWB := Aside0.mk hwb
 have HC := Aside0.mk hC
 obtain ⟨q, hq⟩ : ∃ q, rightB k p.length e l = q := ⟨_, rfl⟩
 have HQ := Aside0.mk hq
 rw [← hC]
 have hlc : (loadVar 34 ⟨g + 1, 0, none⟩).run Tryz.prog wb = .ok (.agg C) wb := by rw [hC]; exact ld_P h1 0
 clear h0 h1 h2 hb hs hwb hr hC hg hq
 go_enter Tryz.func17, Tryz.ntmps17
 go_wp2_with (first
  | ((with_reducible refine gate_dst (N := 6) rfl ?_); (refine wpList_allocz rfl 45 (cK zK) rfl zeroKc ?_); simp only [size_alloc]; rw [HWB.out, ← HB.out.2.2.2.2.2.2])
  | ((with_reducible refine gate_dst (N := 10) rfl ?_); (refine wpList_loadv rfl 34 _ rfl _ rfl _ hlc ?_))
  | (go_at_call 39; rw [HC.out]; (refine (right4_calls k (by omega) A p.length c (by omega) e l (by omega) wb).mono ?_); rw [HQ.out]; rintro r w1 ⟨rfl, hb1⟩; have H1 := Aside0.mk hb1; clear hb1; refine pause_ ?_))
 have hlc1 : (loadVar 34 ⟨g + 1, 0, none⟩).run Tryz.prog w1 = .ok (.agg C) w1 := by rw [HC.out]; exact ld_P (at_next HB.out.2.1 H1.out) 0
 cases q with
 | false =>
  have HRS := Aside0.mk (ckOf_no (root := root) HQ.out)
  refine unpause_ ?_
  go_wp2_with (first
   | ((with_reducible refine gate_dst (N := 13) rfl ?_); (refine wpList_built0 rfl 45 rfl (cK zK) built_K0 ?_))
   | ((with_reducible refine gate_store (t := 45) rfl ?_); (refine wpList_store_row rfl 45 (.tmp 6) (.tmp 13) rfl (g + 2) (cK zK) rfl rfl 45 (cK zK) (at_next HB.out.2.2.1 H1.out) (by rw [cK_size]; kernel_rfl) (by rw [cK_size]) (all_one (cK_one zK)) ?_)))
  rw [HRS.out]
  refine bodyPost_ret (v := .agg (cK zK)) ?_ rfl ⟨rfl, below_setRow (HB.out.2.2.2.1.trans (H1.out.mono (by have := HB.out.2.2.2.1.size; omega))) (by have := HB.out.2.2.2.2.2.2; omega)⟩
  exact results_cell_row rfl _ _ (g + 2) 45 _ (0, 0) _ rfl (setRow_heap _ _ _ _ _ _ (at_next HB.out.2.2.1 H1.out)) hu30 rfl (by rw [cK_size]; kernel_rfl)
 | true =>
  have hp2 : p.length ≤ 256 := by
   by_cases h : 256 < p.length
   ·have h1 := HQ.out; rw [right_long h] at h1; cases h1
   ·omega
  obtain ⟨hs, hhs⟩ : ∃ hs, chainOf k p e l = hs := ⟨_, rfl⟩
  have hlast := chain_last k p e l
  have hcl := chain_len k p e l
  rw [hhs] at hlast hcl
  obtain ⟨tp, htp⟩ : ∃ t, topOf k p e l = t := ⟨_, rfl⟩
  rw [htp] at hlast
  have HT := Aside0.mk (⟨hhs, htp, hlast⟩ : _ ∧ _ ∧ _)
  clear hhs htp hlast
  refine unpause_ ?_
  go_wp2_with (first
   | ((with_reducible refine gate_dst (N := 15) rfl ?_); (refine wpList_loadv rfl 34 _ rfl _ rfl _ hlc1 ?_))
   | (go_at_call 40; rw [HC.out]; (refine (Chain_calls k hk1 A p c hp2 e l hl1 w1 (Kd.C_below HB.out.2.2.2.2.2.1 H1.out)).mono ?_); rw [HT.out.1]; rintro r w2 ⟨A2, c2, rfl, hh2, hb2⟩; have H2 := Aside0.mk (And.intro hh2 (below_tr H1.out hb2 H1.out.size)); clear hh2 hb2)
   | ((with_reducible refine gate_dst (N := 17) rfl ?_); (refine wpList_built0 rfl 30 rfl (cS zS) (by kernel_rfl) ?_))
   | ((with_reducible refine gate_dst (N := 8) rfl ?_); (refine wpList_allocz rfl 30 (cS zS) rfl zero27 ?_); obtain ⟨n8, hn8⟩ : ∃ b, b = w2.heap.size := ⟨_, rfl⟩; rw [← hn8]; obtain ⟨wx, hwx⟩ : ∃ W, w2.alloc (.cells (cS zS) 30) = W := ⟨_, rfl⟩; rw [hwx]; have HX := Aside0.mk (⟨by rw [← hwx]; exact h_new hn8, by rw [← hwx]; exact below_alloc (Below.refl _ _) _, hn8⟩ : wx.heap[n8]? = some (.cells (cS zS) 30 (0, 0)) ∧ Below w2.heap.size w2 wx ∧ n8 = w2.heap.size); clear hwx hn8)
   | ((with_reducible refine gate_store (t := 30) (p := 8) rfl ?_); (refine wpList_store_row rfl 30 (.tmp 8) (.tmp 17) rfl n8 (cS zS) rfl rfl 30 (cS zS) HX.out.1 (by rw [cS_size]; kernel_rfl) (by rw [cS_size]) (encI_one _) ?_); obtain ⟨wz, hwz⟩ : ∃ W, wx.setRow n8 (cS zS) = W := ⟨_, rfl⟩; refine at_world hwz ?_; have HZ := Aside0.mk (⟨by rw [← hwz]; exact setRow_heap _ _ _ _ _ _ HX.out.1, by rw [← hwz]; exact below_tr H2.out.2 (below_setRow HX.out.2.1 (by have := HX.out.2.2; omega)) H2.out.2.size, by rw [← hwz]; exact H2.out.1.below (below_setRow HX.out.2.1 (by have := HX.out.2.2; omega)), by have := HX.out.2.2; have := H2.out.2.size; omega⟩ : wz.heap[n8]? = some (.cells (cS zS) 30 (0, 0)) ∧ Below wb.heap.size wb wz ∧ Hrd wz A2 c2 hs ∧ wb.heap.size ≤ n8); clear hwz; refine pause_ ?_))
  clear HX H2 hlc hlc1
  by_cases h0 : hs.length = 0
  ·have c5 : ((0 : Int) < (hs.length : Int)) = False := eq_false (by omega)
   have c5n : (0 < hs.length) = False := eq_false (by omega)
   have hz8 : wz.heap[n8]? = some (.cells (cS tp) 30 (0, 0)) := by rw [HT.out.2.2.1 h0]; exact HZ.out.1
   refine unpause_ ?_
   by_cases htr : tp = root
   ·have hde : decide (tp = root) = true := decide_eq_true htr
    have hx1 := cell_P1 (at_next HB.out.2.1 HZ.out.2.1)
    by_cases he : e = 1
    ·subst he
     have HRS := Aside0.mk (ckOf_yes HQ.out (HT.out.2.1.trans htr))
     clear htr
     go_wp2_with (first
      | ((with_reducible refine gate_dst (N := 28) rfl ?_); (refine wpList_loadv rfl 30 _ rfl _ rfl _ (ld_S hz8 0) ?_))
      | ((with_reducible refine gate_dst (N := 29) rfl ?_); (refine wpList_loadv rfl 30 _ rfl _ rfl _ (ld_S (at_next HB.out.1 HZ.out.2.1) 0) ?_))
      | ((with_reducible refine gate_dst (N := 30) rfl ?_); (refine wpList_neq rfl _ _ _ _ rfl _ _ rfl rfl gt_S _ (fun w => eqS w tp root) ?_); rw [hde])
      | ((with_reducible refine gate_dst (N := 37) rfl ?_); (refine wpList_loadv rfl 30 _ rfl _ rfl _ (run_loadVar_at _ _ 30 (cS l.v) _ (cells_P3 (at_next HB.out.2.1 HZ.out.2.1)) Tryz.underlying30 rfl (by rw [cS_size]; kernel_rfl)) ?_))
      | (refine bld_K rfl _ _ _ rfl ⟨l.v, true, true⟩ rfl rfl rfl ?_)
      | ((with_reducible refine gate_store (t := 45) rfl ?_); (refine wpList_store_row rfl 45 (.tmp 6) (.tmp 38) rfl (g + 2) (cK ⟨l.v, true, true⟩) rfl rfl 45 (cK zK) (at_next HB.out.2.2.1 HZ.out.2.1) (by rw [cK_size]; kernel_rfl) (by simp only [cK_size]) (all_one (cK_one ⟨l.v, true, true⟩)) ?_)))
     rw [HRS.out]
     refine bodyPost_ret (v := .agg (cK ⟨l.v, true, true⟩)) ?_ rfl ⟨rfl, below_setRow (HB.out.2.2.2.1.trans (HZ.out.2.1.mono (by have := HB.out.2.2.2.1.size; omega))) (by have := HB.out.2.2.2.2.2.2; omega)⟩
     exact results_cell_row rfl _ _ (g + 2) 45 _ (0, 0) _ rfl (setRow_heap _ _ _ _ _ _ (at_next HB.out.2.2.1 HZ.out.2.1)) hu30 rfl (by rw [cK_size]; kernel_rfl)
    ·have heb : (e == 1) = false := by simp [he]
     have HRS := Aside0.mk (ckOf_other HQ.out (HT.out.2.1.trans htr) he)
     clear htr
     go_wp2_with (first
      | ((with_reducible refine gate_dst (N := 28) rfl ?_); (refine wpList_loadv rfl 30 _ rfl _ rfl _ (ld_S hz8 0) ?_))
      | ((with_reducible refine gate_dst (N := 29) rfl ?_); (refine wpList_loadv rfl 30 _ rfl _ rfl _ (ld_S (at_next HB.out.1 HZ.out.2.1) 0) ?_))
      | ((with_reducible refine gate_dst (N := 30) rfl ?_); (refine wpList_neq rfl _ _ _ _ rfl _ _ rfl rfl gt_S _ (fun w => eqS w tp root) ?_); rw [hde])
      | (refine bld_Ko rfl rfl ?_)
      | ((with_reducible refine gate_store (t := 45) rfl ?_); (refine wpList_store_row rfl 45 (.tmp 6) (.tmp 39) rfl (g + 2) (cK ⟨zS, false, true⟩) rfl rfl 45 (cK zK) (at_next HB.out.2.2.1 HZ.out.2.1) (by rw [cK_size]; kernel_rfl) (by simp only [cK_size]) (all_one (cK_one ⟨zS, false, true⟩)) ?_)))
     rw [HRS.out]
     refine bodyPost_ret (v := .agg (cK ⟨zS, false, true⟩)) ?_ rfl ⟨rfl, below_setRow (HB.out.2.2.2.1.trans (HZ.out.2.1.mono (by have := HB.out.2.2.2.1.size; omega))) (by have := HB.out.2.2.2.2.2.2; omega)⟩
     exact results_cell_row rfl _ _ (g + 2) 45 _ (0, 0) _ rfl (setRow_heap _ _ _ _ _ _ (at_next HB.out.2.2.1 HZ.out.2.1)) hu30 rfl (by rw [cK_size]; kernel_rfl)
   ·have hde : decide (tp = root) = false := decide_eq_false htr
    have HRS := Aside0.mk (ckOf_ne HQ.out (fun h => htr (HT.out.2.1.symm.trans h)))
    clear htr
    go_wp2_with (first
     | ((with_reducible refine gate_dst (N := 28) rfl ?_); (refine wpList_loadv rfl 30 _ rfl _ rfl _ (ld_S hz8 0) ?_))
     | ((with_reducible refine gate_dst (N := 29) rfl ?_); (refine wpList_loadv rfl 30 _ rfl _ rfl _ (ld_S (at_next HB.out.1 HZ.out.2.1) 0) ?_))
     | ((with_reducible refine gate_dst (N := 30) rfl ?_); (refine wpList_neq rfl _ _ _ _ rfl _ _ rfl rfl gt_S _ (fun w => eqS w tp root) ?_); rw [hde])
     | ((with_reducible refine gate_dst (N := 31) rfl ?_); (refine wpList_built0 rfl 45 rfl (cK zK) built_K0 ?_))
     | ((with_reducible refine gate_store (t := 45) rfl ?_); (refine wpList_store_row rfl 45 (.tmp 6) (.tmp 31) rfl (g + 2) (cK zK) rfl rfl 45 (cK zK) (at_next HB.out.2.2.1 HZ.out.2.1) (by rw [cK_size]; kernel_rfl) (by simp only [cK_size]) (all_one (cK_one zK)) ?_)))
    rw [HRS.out]
    refine bodyPost_ret (v := .agg (cK zK)) ?_ rfl ⟨rfl, below_setRow (HB.out.2.2.2.1.trans (HZ.out.2.1.mono (by have := HB.out.2.2.2.1.size; omega))) (by have := HB.out.2.2.2.2.2.2; omega)⟩
    exact results_cell_row rfl _ _ (g + 2) 45 _ (0, 0) _ rfl (setRow_heap _ _ _ _ _ _ (at_next HB.out.2.2.1 HZ.out.2.1)) hu30 rfl (by rw [cK_size]; kernel_rfl)
  ·have h0p : 0 < hs.length := by omega
   have c5 : ((0 : Int) < (hs.length : Int)) = True := eq_true (by omega)
   have c5n : (0 < hs.length) = True := eq_true h0p
   have hlst := HT.out.2.2.2 h0p
   obtain ⟨m, hm⟩ : ∃ m, hs.length - 1 = m := ⟨_, rfl⟩
   rw [hm] at hlst
   have hml : m < hs.length := by omega
   have c6 : ((hs.length : Int) - 1) = (m : Int) := by omega
   have c7 : ((m : Int) < (hs.length : Int)) = True := eq_true (by omega)
   have c8 : ((0 : Int) ≤ (m : Int)) = True := eq_true (by omega)
   obtain ⟨ad, xh, eA, hxe, hat, ht, hf, hrob⟩ := HZ.out.2.2.1.at m hml
   subst eA
   have HXH := Aside0.mk (⟨hat, ht, hf, hrob, by rw [← hlst]; exact congrArg sumD hxe.symm⟩ : _ ∧ _ ∧ _ ∧ _ ∧ sumD xh.h = tp)
   clear hat ht hf hrob hxe hlst
   refine unpause_ ?_
   have hlh := le_H HXH.out.1 (Below.refl _ _) 0
   go_wp2_with (first
    | ((with_reducible refine gate_dst (N := 26) rfl ?_); (refine wpList_loadv rfl 85 _ rfl _ rfl _ hlh ?_))
    | (go_at_call 41; (refine (sumX_calls (C := cH xh) rfl HXH.out.2.1 HXH.out.2.2.1 wz HXH.out.2.2.2.1 tp HXH.out.2.2.2.2).mono ?_); rintro r w5 ⟨rfl, hb5⟩; have H5 := Aside0.mk hb5; clear hb5)
    | ((with_reducible refine gate_store (t := 30) (p := 8) rfl ?_); (refine wpList_store_row rfl 30 (.tmp 8) (.tmp 27) rfl n8 (cS tp) rfl rfl 30 (cS zS) (at_next HZ.out.1 H5.out) (by rw [cS_size]; kernel_rfl) (by rw [cS_size, cS_size]) (encI_one _) ?_); obtain ⟨wv, hwv⟩ : ∃ W, w5.setRow n8 (cS tp) = W := ⟨_, rfl⟩; refine at_world hwv ?_; have HV := Aside0.mk (⟨by rw [← hwv]; exact setRow_heap _ _ _ _ _ _ (at_next HZ.out.1 H5.out), by rw [← hwv]; exact below_setRow (below_tr HZ.out.2.1 H5.out HZ.out.2.1.size) HZ.out.2.2.2⟩ : wv.heap[n8]? = some (.cells (cS tp) 30 (0, 0)) ∧ Below wb.heap.size wb wv); clear hwv; refine pause_ ?_))
   clear hlh H5 c5 c5n c6 c7 c8
   refine unpause_ ?_
   by_cases htr : tp = root
   ·have hde : decide (tp = root) = true := decide_eq_true htr
    have hx1 := cell_P1 (at_next HB.out.2.1 HV.out.2)
    by_cases he : e = 1
    ·subst he
     have HRS := Aside0.mk (ckOf_yes HQ.out (HT.out.2.1.trans htr))
     clear htr
     go_wp2_with (first
      | ((with_reducible refine gate_dst (N := 28) rfl ?_); (refine wpList_loadv rfl 30 _ rfl _ rfl _ (ld_S HV.out.1 0) ?_))
      | ((with_reducible refine gate_dst (N := 29) rfl ?_); (refine wpList_loadv rfl 30 _ rfl _ rfl _ (ld_S (at_next HB.out.1 HV.out.2) 0) ?_))
      | ((with_reducible refine gate_dst (N := 30) rfl ?_); (refine wpList_neq rfl _ _ _ _ rfl _ _ rfl rfl gt_S _ (fun w => eqS w tp root) ?_); rw [hde])
      | ((with_reducible refine gate_dst (N := 37) rfl ?_); (refine wpList_loadv rfl 30 _ rfl _ rfl _ (run_loadVar_at _ _ 30 (cS l.v) _ (cells_P3 (at_next HB.out.2.1 HV.out.2)) Tryz.underlying30 rfl (by rw [cS_size]; kernel_rfl)) ?_))
      | (refine bld_K rfl _ _ _ rfl ⟨l.v, true, true⟩ rfl rfl rfl ?_)
      | ((with_reducible refine gate_store (t := 45) rfl ?_); (refine wpList_store_row rfl 45 (.tmp 6) (.tmp 38) rfl (g + 2) (cK ⟨l.v, true, true⟩) rfl rfl 45 (cK zK) (at_next HB.out.2.2.1 HV.out.2) (by rw [cK_size]; kernel_rfl) (by simp only [cK_size]) (all_one (cK_one ⟨l.v, true, true⟩)) ?_)))
     rw [HRS.out]
     refine bodyPost_ret (v := .agg (cK ⟨l.v, true, true⟩)) ?_ rfl ⟨rfl, below_setRow (HB.out.2.2.2.1.trans (HV.out.2.mono (by have := HB.out.2.2.2.1.size; omega))) (by have := HB.out.2.2.2.2.2.2; omega)⟩
     exact results_cell_row rfl _ _ (g + 2) 45 _ (0, 0) _ rfl (setRow_heap _ _ _ _ _ _ (at_next HB.out.2.2.1 HV.out.2)) hu30 rfl (by rw [cK_size]; kernel_rfl)
    ·have heb : (e == 1) = false := by simp [he]
     have HRS := Aside0.mk (ckOf_other HQ.out (HT.out.2.1.trans htr) he)
     clear htr
     go_wp2_with (first
      | ((with_reducible refine gate_dst (N := 28) rfl ?_); (refine wpList_loadv rfl 30 _ rfl _ rfl _ (ld_S HV.out.1 0) ?_))
      | ((with_reducible refine gate_dst (N := 29) rfl ?_); (refine wpList_loadv rfl 30 _ rfl _ rfl _ (ld_S (at_next HB.out.1 HV.out.2) 0) ?_))
      | ((with_reducible refine gate_dst (N := 30) rfl ?_); (refine wpList_neq rfl _ _ _ _ rfl _ _ rfl rfl gt_S _ (fun w => eqS w tp root) ?_); rw [hde])
      | (refine bld_Ko rfl rfl ?_)
      | ((with_reducible refine gate_store (t := 45) rfl ?_); (refine wpList_store_row rfl 45 (.tmp 6) (.tmp 39) rfl (g + 2) (cK ⟨zS, false, true⟩) rfl rfl 45 (cK zK) (at_next HB.out.2.2.1 HV.out.2) (by rw [cK_size]; kernel_rfl) (by simp only [cK_size]) (all_one (cK_one ⟨zS, false, true⟩)) ?_)))
     rw [HRS.out]
     refine bodyPost_ret (v := .agg (cK ⟨zS, false, true⟩)) ?_ rfl ⟨rfl, below_setRow (HB.out.2.2.2.1.trans (HV.out.2.mono (by have := HB.out.2.2.2.1.size; omega))) (by have := HB.out.2.2.2.2.2.2; omega)⟩
     exact results_cell_row rfl _ _ (g + 2) 45 _ (0, 0) _ rfl (setRow_heap _ _ _ _ _ _ (at_next HB.out.2.2.1 HV.out.2)) hu30 rfl (by rw [cK_size]; kernel_rfl)
   ·have hde : decide (tp = root) = false := decide_eq_false htr
    have HRS := Aside0.mk (ckOf_ne HQ.out (fun h => htr (HT.out.2.1.symm.trans h)))
    clear htr
    go_wp2_with (first
     | ((with_reducible refine gate_dst (N := 28) rfl ?_); (refine wpList_loadv rfl 30 _ rfl _ rfl _ (ld_S HV.out.1 0) ?_))
     | ((with_reducible refine gate_dst (N := 29) rfl ?_); (refine wpList_loadv rfl 30 _ rfl _ rfl _ (ld_S (at_next HB.out.1 HV.out.2) 0) ?_))
     | ((with_reducible refine gate_dst (N := 30) rfl ?_); (refine wpList_neq rfl _ _ _ _ rfl _ _ rfl rfl gt_S _ (fun w => eqS w tp root) ?_); rw [hde])
     | ((with_reducible refine gate_dst (N := 31) rfl ?_); (refine wpList_built0 rfl 45 rfl (cK zK) built_K0 ?_))
     | ((with_reducible refine gate_store (t := 45) rfl ?_); (refine wpList_store_row rfl 45 (.tmp 6) (.tmp 31) rfl (g + 2) (cK zK) rfl rfl 45 (cK zK) (at_next HB.out.2.2.1 HV.out.2) (by rw [cK_size]; kernel_rfl) (by simp only [cK_size]) (all_one (cK_one zK)) ?_)))
    rw [HRS.out]
    refine bodyPost_ret (v := .agg (cK zK)) ?_ rfl ⟨rfl, below_setRow (HB.out.2.2.2.1.trans (HV.out.2.mono (by have := HB.out.2.2.2.1.size; omega))) (by have := HB.out.2.2.2.2.2.2; omega)⟩
    exact results_cell_row rfl _ _ (g + 2) 45 _ (0, 0) _ rfl (setRow_heap _ _ _ _ _ _ (at_next HB.out.2.2.1 HV.out.2)) hu30 rfl (by rw [cK_size]; kernel_rfl)
end Go.Proofs.YtanabbjakacgbaaGreatDoor.Sp
namespace Go.Proofs.YtanabbjakacgbaaGreatDoor.Sp
open Go.RowKit Go.Proofs.YtanabbjakacgbaaGreatDoorW.PrintWords Go.Proofs.YtanabbjakacgbaaGreatDoorW.PrintLast Go.Proofs.YtanabbjakacgbaaGreatDoorW.PrintMore Go.Proofs.YtanabbjakacgbaaGreatDoor.PM Go.Proofs.YtanabbjakacgbaaGreatDoor.Grow
set_option linter.unusedVariables false
set_option linter.unusedSimpArgs false
set_option maxRecDepth 100000
theorem xor_ok {x y : Int} (hx : 0 ≤ x ∧ x < 256) (hy : 0 ≤ y ∧ y < 256) : 0 ≤ bits .xor .u8 x y ∧ bits .xor .u8 x y < 256 := by
 rw [u8_xor x y hx.1 hx.2 hy.1 hy.2]
 have := Nat.xor_lt_two_pow (x := x.toNat) (y := y.toNat) (n := 8) (by omega) (by omega)
 omega
def sset (x : Sm) (i : Nat) (b : Int) (h : 0 ≤ b ∧ b < 256) : Sm := ⟨x.b.set i b, by rw [List.length_set]; exact x.h, fun y hy => by
 rcases List.mem_or_eq_of_mem_set hy with hy | hy
 ·exact x.r y hy
 ·rw [hy]; exact h⟩
theorem cS_sset (x : Sm) (i : Nat) (b : Int) (h : 0 ≤ b ∧ b < 256) : cS (sset x i b h) = (cS x).setIfInBounds i (.int .u8 b) := by
 rw [cS, cS, encI, encI, List.setIfInBounds_toArray, sset]
 simp only [List.map_set]
theorem set_PB {w : World} {g t : Nat} {v : Value} {e : Int} {l : Lf} (hg : w.heap[g]? = some (.cells (cP v e l) t (0, 0))) (i : Nat) (b : Int) (h : 0 ≤ b ∧ b < 256) :
  ∃ l' : Lf, l'.k = l.k ∧ (w.setCell ⟨g, 3 + i, none⟩ (.int .u8 b)).heap[g]? = some (.cells (cP v e l') t (0, 0)) := by
 refine ⟨⟨l.k, sset l.v i b h⟩, rfl, ?_⟩
 rw [heap_setCell_same w g (3 + i) _ t _ hg, cP, cP, Array.setIfInBounds_append_right (by simp; omega), cL, cL, Array.setIfInBounds_append_right (by simp; omega), cS_sset]
 have e1 : 3 + i - (#[v, Value.int .i64 e] : Array Value).size - (#[Value.string l.k] : Array Value).size = i := by show 3 + i - 2 - 1 = i; omega
 rw [e1]
theorem add_at (g o j : Nat) : (⟨g, o, none⟩ : Addr).add j = ⟨g, o + j, none⟩ := by simp [Addr.add]
theorem C_keepS {w W : World} {ad : Addr} {n : Nat} {P : List Sm} (h : kS.C w (some ad) n P) (hb : W.heap[ad.block]? = w.heap[ad.block]?) : kS.C W (some ad) n P := by
 refine ⟨h.1, h.2.1, fun hn => ?_⟩
 obtain ⟨ad', e, hc⟩ := h.2.2 hn
 obtain rfl := Option.some.inj e
 refine ⟨ad, rfl, fun j p hj => ?_⟩
 obtain ⟨c, h1, h2, h3⟩ := hc j p hj
 exact ⟨c, h1, h2, fun i u hi => (World.cell?_of_block (by rw [show (ad.add (j * kS.sz + i)).block = ad.block from add_blk _ _]; exact hb)).trans (h3 i u hi)⟩
theorem set_S {w W : World} {gP : Nat} {cur : Array Value} {P : List Sm} (hC : kS.C w (some ⟨gP, 0, none⟩) P.length P) (hcur : w.heap[gP]? = some (.cells cur 30 (0, 0))) (j : Nat) (hj : j < P.length) (i : Nat) (hi : i < 32) (b : Int) (h : 0 ≤ b ∧ b < 256)
  (hW : W.heap[gP]? = (w.setCell ⟨gP, j * 32 + i, none⟩ (.int .u8 b)).heap[gP]?) : ∃ P' : List Sm, P'.length = P.length ∧ kS.C W (some ⟨gP, 0, none⟩) P'.length P' := by
 rw [heap_setCell_same w gP (j * 32 + i) _ 30 _ hcur] at hW
 refine ⟨P.set j (sset P[j] i b h), by rw [List.length_set], rfl, by rw [List.length_set]; exact hC.2.1, fun hn => ⟨_, rfl, fun k x hx => ?_⟩⟩
 obtain ⟨ad', e, hc⟩ := hC.2.2 (by omega)
 obtain rfl := Option.some.inj e
 refine ⟨(cS x).toList, by rw [Array.length_toList, cS_size]; rfl, rfl, fun m u hu => ?_⟩
 have hm : m < 32 := by
  have := (List.getElem?_eq_some_iff.1 hu).1
  rw [Array.length_toList, cS_size] at this
  exact this
 have hk : k < P.length := by
  have := (List.getElem?_eq_some_iff.1 hx).1
  rwa [List.length_set] at this
 have hsz : kS.sz = 32 := rfl
 have hold : ∀ (k : Nat) (hk : k < P.length) (m : Nat) (u : Value), (cS P[k]).toList[m]? = some u → cur[k * 32 + m]? = some u := fun k hk m u hu => by
  obtain ⟨c, h1, h2, h3⟩ := hc k P[k] (List.getElem?_eq_getElem hk)
  have h4 := h3 m u (by rw [show c = (cS P[k]).toList from h2]; exact hu)
  rw [add_at, hsz, Nat.zero_add, cell_of_row w gP _ _ 30 _ hcur] at h4
  exact h4
 rw [add_at, hsz, Nat.zero_add, cell_of_row W gP _ _ 30 _ hW]
 by_cases hkj : k = j
 ·subst hkj
  rw [List.getElem?_set_self hj] at hx
  obtain rfl := Option.some.inj hx
  rw [cS_sset, Array.toList_setIfInBounds] at hu
  by_cases hmi : m = i
  ·subst hmi
   have h32 : m < (cS P[k]).toList.length := by rw [Array.length_toList, cS_size]; exact hm
   rw [List.getElem?_set_self h32] at hu
   rw [Array.getElem?_setIfInBounds_self_of_lt, ← hu]
   have := hold k hj m _ (List.getElem?_eq_getElem h32)
   exact (Array.getElem?_eq_some_iff.1 this).1
  ·rw [List.getElem?_set_ne (Ne.symm hmi)] at hu
   rw [Array.getElem?_setIfInBounds_ne (by omega)]
   exact hold k hj m u hu
 ·rw [List.getElem?_set_ne (Ne.symm hkj)] at hx
  rw [List.getElem?_eq_getElem hk] at hx
  obtain rfl := Option.some.inj hx
  rw [Array.getElem?_setIfInBounds_ne (fun e => hkj (by omega))]
  exact hold k hk m u hu
theorem byte_at {w : World} {gP n : Nat} {P : List Sm} (h : kS.C w (some ⟨gP, 0, none⟩) n P) (j : Nat) (hj : j < P.length) (i : Nat) (hi : i < 32) : ∃ b0 : Int, (0 ≤ b0 ∧ b0 < 256) ∧ w.cell? ⟨gP, j * 32 + i, none⟩ = some (.int .u8 b0) := by
 have hl := h.1
 obtain ⟨ad, e, hc⟩ := at_flat h zS (j : Int) (by omega) (by omega)
 obtain rfl := Option.some.inj e
 rw [Int.toNat_natCast, List.getD_eq_getElem?_getD, List.getElem?_eq_getElem hj] at hc
 have hb : i < P[j].b.length := by rw [P[j].h]; exact hi
 refine ⟨P[j].b[i], P[j].r _ (List.getElem_mem hb), ?_⟩
 have := hc i (.int .u8 P[j].b[i]) (by
  show (cS P[j]).toList[i]? = _
  rw [cS, encI]
  simp only [List.toList_toArray]
  rw [List.getElem?_map, List.getElem?_eq_getElem hb]
  rfl)
 rw [add_at, add_at, Nat.zero_add] at this
 exact this
def Ty27 (w : World) (A : Option Addr) : Prop := ∀ ad, A = some ad → ∃ cells fr, w.heap[ad.block]? = some (.cells cells 30 fr)
theorem Ty27.below {w w' : World} {A : Option Addr} (h : Ty27 w A) (hb : Below w.heap.size w w') : Ty27 w' A := fun ad e => by
 obtain ⟨cells, fr, h1⟩ := h ad e
 exact ⟨cells, fr, at_next h1 hb⟩
theorem R_ty {w : World} {base : Nat} {ok : Nat → Prop} {A : Option Addr} {n c : Nat} {P : List Sm} (h : kS.R 30 w base ok (.slice A n c) P) : Ty27 w A := fun ad e => by
 subst e
 obtain ⟨inner, hi⟩ := Kd.R_own h
 obtain ⟨cells, hc⟩ := own_typed hi ad.block rfl
 exact ⟨cells, _, hc⟩
theorem Ty27.ne {w : World} {ad : Addr} (h : Ty27 w (some ad)) {b t : Nat} {fr : Nat × Nat} {cells : Array Value} (hb : w.heap[b]? = some (.cells cells t fr)) (ht : t ≠ 30) : ad.block ≠ b := fun e => by
 obtain ⟨cells', fr', h1⟩ := h ad rfl
 rw [e, hb] at h1
 injection h1 with h1
 injection h1 with _ h2
 exact ht h2
end Go.Proofs.YtanabbjakacgbaaGreatDoor.Sp
namespace Go.Proofs.YtanabbjakacgbaaGreatDoor.Sp
open Go.RowKit Go.Proofs.YtanabbjakacgbaaGreatDoorW.PrintWords Go.Proofs.YtanabbjakacgbaaGreatDoorW.PrintLast Go.Proofs.YtanabbjakacgbaaGreatDoorW.PrintMore Go.Proofs.YtanabbjakacgbaaGreatDoor.PM Go.Proofs.YtanabbjakacgbaaGreatDoor.Grow
set_option linter.unusedVariables false
set_option linter.unusedSimpArgs false
set_option maxRecDepth 100000
attribute [local go_sem] Oper.semAt_some
theorem eqL_r (w : World) (x : Lf) : (Op.equal 32 (.agg (cL x)) (.agg (cL x))).run Tryz.prog w = .ok true w := by rw [eqL]; simp
set_option maxHeartbeats 4000000 in
theorem sameProof_calls (P : List Sm) (e : Int) (l : Lf) (A A2 : Option Addr) (c c2 : Nat) (w : World) (hr : kS.C w A P.length P) (hr2 : kS.C w A2 P.length P) (hl : P.length ≤ 256) :
  Calls Tryz.prog 12 #[.agg (cP (.slice A P.length c) e l), .agg (cP (.slice A2 P.length c2) e l)] w fun r w' => r = .returned (.bool true) ∧ Below w.heap.size w w' := by
 obtain ⟨g, hg⟩ : ∃ g, g = w.heap.size := ⟨_, rfl⟩
 obtain ⟨C, hC⟩ : ∃ C, C = cP (.slice A P.length c) e l := ⟨_, rfl⟩
 obtain ⟨C2, hC2⟩ : ∃ C, C = cP (.slice A2 P.length c2) e l := ⟨_, rfl⟩
 rw [← hC, ← hC2]
 obtain ⟨wb, hwb⟩ : ∃ wb, wb = (w.alloc (.cells C 34)).alloc (.cells C2 34) := ⟨_, rfl⟩
 have h0 : wb.heap[g]? = some (.cells C 34 (0, 0)) := by rw [hwb, h_old (by rw [size_alloc]; omega)]; exact h_new hg
 have h1 : wb.heap[g + 1]? = some (.cells C2 34 (0, 0)) := by rw [hwb]; exact h_new (by rw [size_alloc, hg])
 have hb : Below w.heap.size w wb := by rw [hwb]; exact below_alloc (below_alloc (Below.refl _ _) _) _
 have HB := Aside0.mk (⟨by rw [← hC]; exact h0, by rw [← hC2]; exact h1, hb, Kd.C_below hr hb, Kd.C_below hr2 hb⟩ : wb.heap[g]? = some (.cells (cP (.slice A P.length c) e l) 34 (0, 0)) ∧ wb.heap[g + 1]? = some (.cells (cP (.slice A2 P.length c2) e l) 34 (0, 0)) ∧ Below w.heap.size w wb ∧ kS.C wb A P.length P ∧ kS.C wb A2 P.length P)
 have HWB := Aside0.mk hwb.symm
 have HG := Aside0.mk hg
 have hc0 := cell_P0 HB.out.1
 have hc1 := cell_P1 HB.out.1
 have hd0 := cell_P0 HB.out.2.1
 have hd1 := cell_P1 HB.out.2.1
 have hle := le_L (cells_P2 HB.out.1) (Below.refl _ _) 0
 have hld := le_L (cells_P2 HB.out.2.1) (Below.refl _ _) 0
 clear h0 h1 hb hwb hr hr2 hC hC2 hg
 go_enter Tryz.func12, Tryz.ntmps12
 go_wp2_with (first
  | ((with_reducible refine gate_dst (N := 6) rfl ?_); rw [HWB.out, ← HG.out])
  | ((with_reducible refine gate_dst (N := 22) rfl ?_); refine wpList_wanted (by rfl) ?_; (refine wpList_loadv rfl 32 _ rfl _ rfl _ hle ?_))
  | ((with_reducible refine gate_dst (N := 24) rfl ?_); refine wpList_wanted (by rfl) ?_; (refine wpList_loadv rfl 32 _ rfl _ rfl _ hld ?_))
  | ((with_reducible refine gate_dst (N := 25) rfl ?_); refine wpList_wanted (by rfl) ?_; (refine wpList_neq rfl _ _ _ _ rfl _ _ rfl rfl gt_L _ (fun w => eqL_r w l) ?_)))
 go_loopw [5] (fun i wr => ∃ m : Nat, i = .int .i64 (m : Int) ∧ m ≤ P.length ∧ Aside0 (Below wb.heap.size wb wr)) (fun i _ => P.length - (intOf i).toNat)
 case atStart => exact ⟨0, rfl, by omega, ⟨Below.refl _ _⟩⟩
 case round =>
  obtain ⟨m, rfl, hm, HR⟩ := hrel
  clear hc0 hc1 hd0 hd1 hle hld
  have hx0 := cell_P0 (at_next HB.out.1 HR.out)
  have hx1 := cell_P0 (at_next HB.out.2.1 HR.out)
  by_cases c5 : m < P.length
  ·have c5b : (m : Int) < (P.length : Int) := by omega
   have c5c := eq_true c5b
   have c5d : ((0 : Int) ≤ (m : Int)) = True := eq_true (by omega)
   obtain ⟨x, hx⟩ : ∃ x, P.getD m zS = x := ⟨_, rfl⟩
   obtain ⟨ad, eA, hat⟩ := at_flat HB.out.2.2.2.1 zS (m : Int) (by omega) c5b
   obtain ⟨ad2, eA2, hat2⟩ := at_flat HB.out.2.2.2.2 zS (m : Int) (by omega) c5b
   subst eA eA2
   rw [Int.toNat_natCast, hx] at hat hat2
   have HAT := Aside0.mk (And.intro hat hat2)
   clear hat hat2 hx
   go_wp2
   clear hx0 hx1
   refine start_ (n := 11) (S := fun w' => Below wr.heap.size wr w') (ds := []) #[false, false, false, false, false, false, false, false, false, false, false] (by kernel_rfl) rfl rfl (Below.refl _ _).drew (fun hHeld => ?_)
   refine pure_ (i := 0) (N := some 34) (v := ?_) (a' := ?_) #[true, false, false, false, false, false, false, false, false, false, false] rfl rfl (by kernel_rfl) (fun _ _ _ h => h) (Or.inl ⟨by rfl, ?_⟩) ?_ ?_
   rotate_left
   ·intro w'
    go_simp
    with_reducible rfl
   rotate_left
   ·simp only [Act.put, lZa, lZb, lZc, i64_w, i32_w]
    rfl
   refine take_ (i := 1) (N := some 35) (v := ?_) (a' := ?_) #[true, true, false, false, false, false, false, false, false, false, false] rfl rfl (by kernel_rfl) (fun _ _ _ h => h) (Or.inl ⟨by rfl, ?_⟩) hHeld ?_ ?_
   rotate_left
   ·intro w' hS
    have hx := cell_P0 (at_next HB.out.1 (below_tr HR.out hS HR.out.size))
    go_simp
    with_reducible rfl
   rotate_left
   ·simp only [Act.put, lZa, lZb, lZc, i64_w, i32_w]
    rfl
   refine pure_ (i := 2) (N := some 36) (v := ?_) (a' := ?_) #[true, true, true, false, false, false, false, false, false, false, false] rfl rfl (by kernel_rfl) (fun _ _ _ h => h) (Or.inl ⟨by rfl, ?_⟩) ?_ ?_
   rotate_left
   ·intro w'
    go_simp
    with_reducible rfl
   rotate_left
   ·simp only [Act.put, lZa, lZb, lZc, i64_w, i32_w]
    rfl
   refine pure_ (i := 3) (N := some 37) (v := ?_) (a' := ?_) #[true, true, true, true, false, false, false, false, false, false, false] rfl rfl (by kernel_rfl) (fun _ _ _ h => h) (Or.inl ⟨by rfl, ?_⟩) ?_ ?_
   rotate_left
   ·intro w'
    go_simp
    with_reducible rfl
   rotate_left
   ·simp only [Act.put, lZa, lZb, lZc, i64_w, i32_w]
    rfl
   refine take_ (i := 4) (N := some 38) (v := .agg (cS x)) (a' := ?_) #[true, true, true, true, true, false, false, false, false, false, false] rfl rfl (by kernel_rfl) (fun _ _ _ h => h) (Or.inl ⟨by rfl, fun w' hS => yield_load _ _ rfl _ rfl (le_S HAT.out.1 (below_tr HR.out hS HR.out.size) 0)⟩) hHeld ?_ ?_
   rotate_left
   ·simp only [Act.put, lZa, lZb, lZc, i64_w, i32_w]
    rfl
   refine pure_ (i := 5) (N := some 39) (v := ?_) (a' := ?_) #[true, true, true, true, true, true, false, false, false, false, false] rfl rfl (by kernel_rfl) (fun _ _ _ h => h) (Or.inl ⟨by rfl, ?_⟩) ?_ ?_
   rotate_left
   ·intro w'
    go_simp
    with_reducible rfl
   rotate_left
   ·simp only [Act.put, lZa, lZb, lZc, i64_w, i32_w]
    rfl
   refine take_ (i := 6) (N := some 40) (v := ?_) (a' := ?_) #[true, true, true, true, true, true, true, false, false, false, false] rfl rfl (by kernel_rfl) (fun _ _ _ h => h) (Or.inl ⟨by rfl, ?_⟩) hHeld ?_ ?_
   rotate_left
   ·intro w' hS
    have hx := cell_P0 (at_next HB.out.2.1 (below_tr HR.out hS HR.out.size))
    go_simp
    with_reducible rfl
   rotate_left
   ·simp only [Act.put, lZa, lZb, lZc, i64_w, i32_w]
    rfl
   refine pure_ (i := 7) (N := some 41) (v := ?_) (a' := ?_) #[true, true, true, true, true, true, true, true, false, false, false] rfl rfl (by kernel_rfl) (fun _ _ _ h => h) (Or.inl ⟨by rfl, ?_⟩) ?_ ?_
   rotate_left
   ·intro w'
    go_simp
    with_reducible rfl
   rotate_left
   ·simp only [Act.put, lZa, lZb, lZc, i64_w, i32_w]
    rfl
   refine pure_ (i := 8) (N := some 42) (v := ?_) (a' := ?_) #[true, true, true, true, true, true, true, true, true, false, false] rfl rfl (by kernel_rfl) (fun _ _ _ h => h) (Or.inl ⟨by rfl, ?_⟩) ?_ ?_
   rotate_left
   ·intro w'
    go_simp
    with_reducible rfl
   rotate_left
   ·simp only [Act.put, lZa, lZb, lZc, i64_w, i32_w]
    rfl
   refine take_ (i := 9) (N := some 43) (v := .agg (cS x)) (a' := ?_) #[true, true, true, true, true, true, true, true, true, true, false] rfl rfl (by kernel_rfl) (fun _ _ _ h => h) (Or.inl ⟨by rfl, fun w' hS => yield_load _ _ rfl _ rfl (le_S HAT.out.2 (below_tr HR.out hS HR.out.size) 0)⟩) hHeld ?_ ?_
   rotate_left
   ·simp only [Act.put, lZa, lZb, lZc, i64_w, i32_w]
    rfl
   refine pure_ (i := 10) (N := some 44) (v := .bool (!true)) (a' := ?_) #[true, true, true, true, true, true, true, true, true, true, true] rfl rfl (by kernel_rfl) (fun _ _ _ h => h) (Or.inl ⟨by rfl, fun w' => yield_neq _ _ _ _ rfl _ _ rfl rfl gt_S (eqS_r w' x)⟩) ?_ ?_
   rotate_left
   ·simp only [Act.put, lZa, lZb, lZc, i64_w, i32_w]
    rfl
   refine done_ (by kernel_rfl) ?_
   have HQ := Aside0.mk (below_tr HR.out hHeld HR.out.size)
   clear hHeld
   go_wp2
   exact ⟨⟨m + 1, by simp, by omega, HQ⟩, by simp [intOf]; omega⟩
  ·obtain rfl : m = P.length := by omega
   have c5b : ¬ (P.length : Int) < (P.length : Int) := by omega
   have HQ := Aside0.mk (HB.out.2.2.1.trans (HR.out.mono HB.out.2.2.1.size))
   go_wp2
   go_ret
   exact ⟨rfl, HQ.out⟩
end Go.Proofs.YtanabbjakacgbaaGreatDoor.Sp
namespace Go.Proofs.YtanabbjakacgbaaGreatDoor.Sp
open Go.RowKit Go.Proofs.YtanabbjakacgbaaGreatDoorW.PrintWords Go.Proofs.YtanabbjakacgbaaGreatDoorW.PrintLast Go.Proofs.YtanabbjakacgbaaGreatDoorW.PrintMore Go.Proofs.YtanabbjakacgbaaGreatDoor.PM
set_option linter.unusedVariables false
set_option linter.unusedSimpArgs false
set_option maxRecDepth 100000
attribute [local go_sem] Oper.semAt_some
def difStep (b : List Lf) (acc : List Lf) (x : Lf) : List Lf := if x ∈ b then acc else putOf acc x
def difGo (b acc l : List Lf) : List Lf := l.foldl (difStep b) acc
def difLs (a b : List Lf) : List Lf := difGo a (difGo b [] a) b
def differOf (a b : List Lf) : List ByteArray := (difLs a b).map (·.k)
theorem difGo_succ {l : List Lf} {n : Nat} (hn : n < l.length) (b acc : List Lf) : difGo b acc (l.take (n + 1)) = difStep b (difGo b acc (l.take n)) (l.getD n zL) := by
 rw [difGo, take_succ' zL hn, List.foldl_append]; rfl
theorem putOf_len' (x : Lf) {l : List Lf} (h : Srt l) : (putOf l x).length ≤ l.length + 1 := by
 rw [putOf_eq x h, List.length_append, List.length_cons]
 have : ∀ l : List Lf, (l.filter fun y => blt y.k x.k).length + (l.filter fun y => blt x.k y.k).length ≤ l.length := by
  intro l
  induction l with
  | nil => simp
  | cons y l ih =>
   by_cases h1 : blt y.k x.k = true
   ·rw [List.filter_cons_of_pos (by simpa using h1), List.filter_cons_of_neg (by rw [blt_asym h1]; simp), List.length_cons, List.length_cons]; omega
   ·rw [List.filter_cons_of_neg (by simpa using h1), List.length_cons]
    by_cases h2 : blt x.k y.k = true
    ·rw [List.filter_cons_of_pos (by simpa using h2), List.length_cons]; omega
    ·rw [List.filter_cons_of_neg (by simpa using h2)]; omega
 have := this l
 omega
theorem Srt.dif (b : List Lf) : ∀ (l acc : List Lf), Srt acc → Srt (difGo b acc l) ∧ (difGo b acc l).length ≤ acc.length + l.length
 | [], acc, h => ⟨h, Nat.le_refl _⟩
 | x :: l, acc, h => by
  rw [difGo, List.foldl_cons, difStep]
  by_cases hx : x ∈ b
  ·rw [if_pos hx]
   have ih := Srt.dif b l acc h
   exact ⟨ih.1, by rw [List.length_cons]; have := ih.2; unfold difGo at this; omega⟩
  ·rw [if_neg hx]
   have ih := Srt.dif b l _ (h.put x)
   refine ⟨ih.1, ?_⟩
   have h1 := ih.2
   have h2 := putOf_len' x h
   unfold difGo at h1
   rw [List.length_cons]; omega
theorem dif_len (b : List Lf) {acc : List Lf} (h : Srt acc) (l : List Lf) (n : Nat) : (difGo b acc (l.take n)).length ≤ acc.length + l.length := by
 have h1 := (Srt.dif b (l.take n) acc h).2
 rw [List.length_take] at h1
 omega
set_option maxHeartbeats 4000000 in
theorem Differ_calls (a b : List Lf) (A Ab : Option Addr) (ca cb : Nat) (w : World) (hra : kL.C w A a.length a) (hrb : kL.C w Ab b.length b) (hca : a.length ≤ ca) (hcb : b.length ≤ cb) (ha : a.length ≤ 5000) (hb : b.length ≤ 5000) :
  Calls Tryz.prog 57 #[.slice A a.length ca, .slice Ab b.length cb] w fun e w' => ∃ v, e = .returned v ∧ Kd.string.R 9 w' w.heap.size (fun _ => True) v (differOf a b) ∧ Below w.heap.size w w' := by
 have HS := Aside0.mk (⟨hra, hrb, hca, hcb⟩ : _ ∧ _ ∧ _ ∧ _)
 clear hra hrb hca hcb
 go_enter Tryz.func57, Tryz.ntmps57
 go_wp2_with (first
  | (refine bs0_L (wa := w) rfl rfl rfl w.heap.size (Below.refl _ _) (Nat.le_refl _) ?_; intro v0 w0 hr0 hb0 hs0; have H0 := Aside0.mk (And.intro hr0 hb0); clear hr0 hb0 hs0))
 go_loopw [5, 6] (fun v i wr => ∃ n : Nat, i = .int .i64 (n : Int) ∧ n ≤ a.length ∧ Aside0 (kL.R 32 wr w.heap.size (fun _ => True) v (difGo b [] (a.take n)) ∧ Below w.heap.size w wr)) (fun _ i _ => a.length - (intOf i).toNat)
 case atStart => exact ⟨0, rfl, by omega, H0⟩
 case round =>
  clear H0
  obtain ⟨n, rfl, hn, HR⟩ := hrel
  by_cases c5 : n < a.length
  ·have c5b : (n : Int) < (a.length : Int) := by omega
   obtain ⟨y, hy⟩ : ∃ y, y = a.getD n zL := ⟨_, rfl⟩
   obtain ⟨ad, eA, hat⟩ := at_flat HS.out.1 zL (n : Int) (by omega) c5b
   subst eA
   rw [show ((n : Int).toNat) = n by omega, ← hy] at hat
   have c5c := eq_true c5b
   have c5d : ((0 : Int) ≤ (n : Int)) = True := eq_true (by omega)
   have HAT := Aside0.mk hat
   have hsu := difGo_succ c5 b []
   rw [← hy] at hsu
   have HSU := Aside0.mk hsu
   obtain ⟨A5, c7, e5⟩ := Kd.R_slice HR.out.1
   subst e5
   have hln : (difGo b [] (a.take n)).length ≤ 100000 := by have := dif_len b List.Pairwise.nil a n; simp only [List.length_nil] at this; omega
   clear hat hy hsu
   by_cases hm : y ∈ b
   ·have hmd : decide (y ∈ b) = true := decide_eq_true hm
    go_wp2_with (first
     | ((with_reducible refine gate_dst (N := 21) rfl ?_); (refine wpList_loadv rfl 32 _ rfl _ rfl _ (le_L HAT.out HR.out.2 0) ?_))
     | (go_at_call 78; (with_reducible refine (Has_calls b y Ab cb wr (Kd.C_below HS.out.2.1 HR.out.2) HS.out.2.2.2 (by omega)).mono ?_); rw [hmd]; rintro e w3 ⟨rfl, hb3⟩; have H3 := Aside0.mk (⟨Kd.R_below HR.out.1 hb3, below_tr HR.out.2 hb3 HR.out.2.size⟩ : _ ∧ _); clear hb3))
    exact ⟨⟨n + 1, by simp, by omega, by rw [HSU.out, difStep, if_pos hm]; exact H3⟩, by simp [intOf]; omega⟩
   ·have hmd : decide (y ∈ b) = false := decide_eq_false hm
    go_wp2_with (first
     | ((with_reducible refine gate_dst (N := 21) rfl ?_); (refine wpList_loadv rfl 32 _ rfl _ rfl _ (le_L HAT.out HR.out.2 0) ?_))
     | (go_at_call 78; (with_reducible refine (Has_calls b y Ab cb wr (Kd.C_below HS.out.2.1 HR.out.2) HS.out.2.2.2 (by omega)).mono ?_); rw [hmd]; rintro e w3 ⟨rfl, hb3⟩; have H3 := Aside0.mk (⟨Kd.R_below HR.out.1 hb3, below_tr HR.out.2 hb3 HR.out.2.size⟩ : _ ∧ _); clear hb3)
     | ((with_reducible refine gate_dst (N := 28) rfl ?_); (refine wpList_loadv rfl 32 _ rfl _ rfl _ (le_L HAT.out H3.out.2 0) ?_))
     | (go_at_call 20; (with_reducible refine (put4_calls (difGo b [] (a.take n)) y A5 c7 w3 (R_C H3.out.1).2.2 (R_C H3.out.1).2.1 hln).mono ?_); rintro e w4 ⟨v4, rfl, hv4, hb4⟩; have H4 := Aside0.mk (⟨Kd.R_lower hv4 H3.out.2.size, below_tr H3.out.2 hb4 H3.out.2.size⟩ : _ ∧ _); clear hv4 hb4))
    exact ⟨⟨n + 1, by simp, by omega, by rw [HSU.out, difStep, if_neg hm]; exact H4⟩, by simp [intOf]; omega⟩
  ·obtain rfl : n = a.length := by omega
   have hsr := (Srt.dif b a [] List.Pairwise.nil).1
   obtain ⟨acc, hacc⟩ : ∃ acc, difGo b [] a = acc := ⟨_, rfl⟩
   have hal := dif_len b List.Pairwise.nil a a.length
   have H1 := HR.out
   rw [List.take_length, hacc] at H1 hal
   rw [hacc] at hsr
   simp only [List.length_nil] at hal
   have HR1 := Aside0.mk H1
   have HSR := Aside0.mk hsr
   have HAC := Aside0.mk hacc
   clear H1 hsr hacc
   go_wp2
   go_loopw [5, 7] (fun v i wq => ∃ m : Nat, i = .int .i64 (m : Int) ∧ m ≤ b.length ∧ Aside0 (kL.R 32 wq w.heap.size (fun _ => True) v (difGo a acc (b.take m)) ∧ Below w.heap.size w wq)) (fun _ i _ => b.length - (intOf i).toNat)
   case atStart => exact ⟨0, rfl, by omega, HR1⟩
   case round =>
    clear HR HR1
    obtain ⟨m, rfl, hmn, HR⟩ := hrel
    by_cases c6 : m < b.length
    ·have c5b : (m : Int) < (b.length : Int) := by omega
     obtain ⟨y, hy⟩ : ∃ y, y = b.getD m zL := ⟨_, rfl⟩
     obtain ⟨ad, eA, hat⟩ := at_flat HS.out.2.1 zL (m : Int) (by omega) c5b
     subst eA
     rw [show ((m : Int).toNat) = m by omega, ← hy] at hat
     have c5c := eq_true c5b
     have c5d : ((0 : Int) ≤ (m : Int)) = True := eq_true (by omega)
     have HAT := Aside0.mk hat
     have hsu := difGo_succ c6 a acc
     rw [← hy] at hsu
     have HSU := Aside0.mk hsu
     obtain ⟨A5, c7, e5⟩ := Kd.R_slice HR.out.1
     subst e5
     have hln : (difGo a acc (b.take m)).length ≤ 100000 := by have := dif_len a HSR.out b m; omega
     clear hat hy hsu
     by_cases hm : y ∈ a
     ·have hmd : decide (y ∈ a) = true := decide_eq_true hm
      go_wp2_with (first
       | ((with_reducible refine gate_dst (N := 40) rfl ?_); (refine wpList_loadv rfl 32 _ rfl _ rfl _ (le_L HAT.out HR.out.2 0) ?_))
       | (go_at_call 78; (with_reducible refine (Has_calls a y A ca _ (Kd.C_below HS.out.1 HR.out.2) HS.out.2.2.1 (by omega)).mono ?_); rw [hmd]; rintro e w3 ⟨rfl, hb3⟩; have H3 := Aside0.mk (⟨Kd.R_below HR.out.1 hb3, below_tr HR.out.2 hb3 HR.out.2.size⟩ : _ ∧ _); clear hb3))
      exact ⟨⟨m + 1, by simp, by omega, by rw [HSU.out, difStep, if_pos hm]; exact H3⟩, by simp [intOf]; omega⟩
     ·have hmd : decide (y ∈ a) = false := decide_eq_false hm
      go_wp2_with (first
       | ((with_reducible refine gate_dst (N := 40) rfl ?_); (refine wpList_loadv rfl 32 _ rfl _ rfl _ (le_L HAT.out HR.out.2 0) ?_))
       | (go_at_call 78; (with_reducible refine (Has_calls a y A ca _ (Kd.C_below HS.out.1 HR.out.2) HS.out.2.2.1 (by omega)).mono ?_); rw [hmd]; rintro e w3 ⟨rfl, hb3⟩; have H3 := Aside0.mk (⟨Kd.R_below HR.out.1 hb3, below_tr HR.out.2 hb3 HR.out.2.size⟩ : _ ∧ _); clear hb3)
       | ((with_reducible refine gate_dst (N := 47) rfl ?_); (refine wpList_loadv rfl 32 _ rfl _ rfl _ (le_L HAT.out H3.out.2 0) ?_))
       | (go_at_call 20; (with_reducible refine (put4_calls (difGo a acc (b.take m)) y A5 c7 w3 (R_C H3.out.1).2.2 (R_C H3.out.1).2.1 hln).mono ?_); rintro e w4 ⟨v4, rfl, hv4, hb4⟩; have H4 := Aside0.mk (⟨Kd.R_lower hv4 H3.out.2.size, below_tr H3.out.2 hb4 H3.out.2.size⟩ : _ ∧ _); clear hv4 hb4))
      exact ⟨⟨m + 1, by simp, by omega, by rw [HSU.out, difStep, if_neg hm]; exact H4⟩, by simp [intOf]; omega⟩
    ·obtain rfl : m = b.length := by omega
     have hal2 := dif_len a HSR.out b b.length
     have H1 := HR.out
     obtain ⟨L, hL⟩ : ∃ L, difGo a acc b = L := ⟨_, rfl⟩
     rw [List.take_length, hL] at H1 hal2
     obtain ⟨A5, c7, e5⟩ := Kd.R_slice H1.1
     subst e5
     have HR1 := Aside0.mk H1
     have HFIN := Aside0.mk (show differOf a b = L.map (·.k) by rw [differOf, difLs, HAC.out, hL])
     clear H1 hL HR
     obtain ⟨wr0, rfl⟩ : ∃ W, W = wr := ⟨_, rfl⟩
     go_wp2_with (first
      | (refine bs0_Str (wa := wr0) rfl rfl rfl wr0.heap.size (Below.refl _ _) (Nat.le_refl _) ?_; intro v8 w8 hr8 hb8 hs8; have H8 := Aside0.mk (And.intro hr8 hb8); clear hr8 hb8 hs8))
     go_loopw [8, 9] (fun v i wz => ∃ n : Nat, i = .int .i64 (n : Int) ∧ n ≤ L.length ∧ Aside0 (Kd.string.R 9 wz wr0.heap.size (fun _ => True) v ((L.take n).map (·.k)) ∧ Below wr0.heap.size wr0 wz)) (fun _ i _ => L.length - (intOf i).toNat)
     case atStart => exact ⟨0, rfl, by omega, H8⟩
     case round =>
      clear H8
      obtain ⟨n, rfl, hn, HR⟩ := hrel
      by_cases c6 : n < L.length
      ·have c5b : (n : Int) < (L.length : Int) := by omega
       obtain ⟨y, hy⟩ : ∃ y, y = L.getD n zL := ⟨_, rfl⟩
       obtain ⟨ad, eA, hat⟩ := at_flat (R_C HR1.out.1).2.2 zL (n : Int) (by omega) c5b
       subst eA
       rw [show ((n : Int).toNat) = n by omega, ← hy] at hat
       have c5c := eq_true c5b
       have c5d : ((0 : Int) ≤ (n : Int)) = True := eq_true (by omega)
       have hx := (HR.out.2.cell (World.block_lt_of_cell? _ _ (at_L0 hat))).trans (at_L0 hat)
       have HSU := Aside0.mk (show (L.take (n + 1)).map (·.k) = (L.take n).map (·.k) ++ [y.k] by rw [take_succ' zL c6, List.map_append, ← hy]; rfl)
       have hnl : ((L.take n).map (·.k)).length ≤ 1000000 := by rw [List.length_map, List.length_take]; omega
       obtain ⟨v', hv'⟩ : ∃ v', v' = u8 := ⟨_, rfl⟩
       clear hat hy
       go_wp2_with (first
        | (refine bs1_Str rfl _ rfl y.k rfl ?_)
        | (refine app_Str (wa := wr0) rfl (.tmp 56) (.tmp 62) rfl u8 _ y.k rfl rfl wr0.heap.size HR.out.1 HR.out.2 HR.out.2.size hnl ?_; intro v1 w1 hr1 hb1 hs1; have H1 := Aside0.mk (And.intro hr1 hb1); clear hr1 hb1 hs1))
       exact ⟨⟨n + 1, by simp, by omega, by rw [HSU.out]; exact H1⟩, by simp [intOf]; omega⟩
      ·obtain rfl : n = L.length := by omega
       have H1 := HR.out
       rw [List.take_length] at H1
       have HQ := Aside0.mk H1
       clear H1
       go_wp2
       go_ret
       exact ⟨_, rfl, by rw [HFIN.out]; exact Kd.R_lower HQ.out.1 HR1.out.2.size, below_tr HR1.out.2 HQ.out.2 HR1.out.2.size⟩
end Go.Proofs.YtanabbjakacgbaaGreatDoor.Sp

