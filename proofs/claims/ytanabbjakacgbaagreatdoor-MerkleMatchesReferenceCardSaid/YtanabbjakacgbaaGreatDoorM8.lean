/- Put together by this session's program out of: Sc. -/
import Derived.Test.YtanabbjakacgbaaGreatDoorM7
namespace Go.Proofs.YtanabbjakacgbaaGreatDoor.Sp
open Go.RowKit Go.Proofs.YtanabbjakacgbaaGreatDoorW.PrintWords Go.Proofs.YtanabbjakacgbaaGreatDoorW.PrintLast Go.Proofs.YtanabbjakacgbaaGreatDoorW.PrintMore Go.Proofs.YtanabbjakacgbaaGreatDoor.PM
set_option linter.unusedVariables false
set_option linter.unusedSimpArgs false
set_option maxRecDepth 100000
section
variable {ops : Array Oper} {rest : List Oper} {o : Oper} {a : Act} {Q : Exit → Act → World → Prop} {w wa W : World}
theorem app_Str2 (hg : o.guard = none) (s x : Operand) (ho : o.op = .call { callee := .builtin .append, args := #[s, x], argTypes := #[36, 36] }) (v : Value) (xs : List ByteArray) (p : ByteArray) (hs : a.eval s = v) (hx : a.eval x = .slice (some ⟨W.heap.size, 0, none⟩) 1 1) (B : Nat) (HO : Kd.string.R 9 W B (fun _ => True) v xs) (HB : Below B wa W) (hB : B ≤ W.heap.size) (hl : xs.length ≤ 1000000)
  (h : ∀ v1 w1, Kd.string.R 9 w1 B (fun _ => True) v1 (xs ++ [p]) → Below B wa w1 → W.grownBy w1 v.ownBlock → wpList Tryz.prog ops Q rest (a.put o.dst v1) w1) : wpList Tryz.prog ops Q (o :: rest) a (W.alloc (.cells #[Value.string p] 9)) :=
 Kd.R_append Kd.string (P := Tryz.prog) (w0 := wa) (W := W) (ops := ops) (rest := rest) (o := o) (a := a) (Q := Q) B hg s x 36 9 (.string ByteArray.empty) 16 ho Tryz.underlying36 infoStr rfl (by decide) (by decide) v xs p [.string p] (fun _ => True) (fun _ => False) hs hx rfl (fun _ hk => hk.elim) (fun _ _ => trivial) HO HB hB (by omega) (fun v1 w1 h1 h2 h3 _ => h v1 w1 h1 h2 h3)
end
theorem cell_I0 {w : World} {g t : Nat} {x : It} {fr : Nat × Nat} (hg : w.heap[g]? = some (.cells (cI x) t fr)) : w.cell? ⟨g, 0, none⟩ = some (.string x.x.k) := by
 have h := at_L0 (at_I0 (row_cells hg))
 exact h
theorem CmpSt.app {B gp gk gc c : Nat} {ks : List ByteArray} {v v1 : Value} {w w1 : World} {p : ByteArray} (h : CmpSt B gp gk gc c ks v w) (n1 : gp ≠ gk) (n3 : gk ≠ gc) (l1 : gp < B) (l2 : gk < B) (l3 : gc < B)
  (hr : Kd.string.R 9 w1 B (fun _ => True) v1 (ks ++ [p])) (hb : Below B w w1) : CmpSt B gp gk gc c (ks ++ [p]) v1 (w1.setCell ⟨gk, 0, none⟩ v1) := by
 have hk1 : Boxed w1 gk 36 v := (hb.block _ l2).trans h.bk
 have h0 : (0 : Nat) < B := by omega
 refine ⟨(heap_setCell_ne n1).trans ((hb.block _ l1).trans h.bp), by have := Boxed.set v1 hk1; exact this, (heap_setCell_ne (Ne.symm n3)).trans ((hb.block _ l3).trans h.bc), Kd.R_set hr hk1 (by decide) 0 _, ⟨(heap_setCell_ne (fun e => ?_)).trans ((hb.block 0 h0).trans h.words.1), by rw [Rng.size_setCell]; have := hb.size; have := h.words.2; omega⟩, by rw [Rng.size_setCell]; exact Nat.le_trans h.size hb.size⟩
 have hw := h.words.1
 rw [e, show w.heap[gk]? = _ from h.bk] at hw
 injection hw with hw; injection hw with _ hw _; exact absurd hw (by decide)
theorem cmp_sizes {d c n : Nat} {a b : List It} (h1 : endsOf a d = false) (hln : n + a.length + b.length ≤ 1000000) (hcn : c + 1 + 2 * (256 - d) * a.length ≤ 1000000000000000) :
  n + (halfOf a d 0).length + (halfOf b d 0).length ≤ 1000000 ∧ c + 1 + 1 + 2 * (256 - (d + 1)) * (halfOf a d 0).length ≤ 1000000000000000 ∧
  n + (cmpF (256 - (d + 1)) (halfOf a d 0) (halfOf b d 0) (d + 1)).1.length + (halfOf a d 1).length + (halfOf b d 1).length ≤ 1000000 ∧ c + 1 + (cmpF (256 - (d + 1)) (halfOf a d 0) (halfOf b d 0) (d + 1)).2 + 1 + 2 * (256 - (d + 1)) * (halfOf a d 1).length ≤ 1000000000000000 := by
 have h3 := ends_lt h1
 have i0 := cmpF_bounds (256 - (d + 1)) (halfOf a d 0) (halfOf b d 0) (d + 1)
 have sa := half_sum a d
 have sb := half_sum b d
 obtain ⟨k, hk⟩ : ∃ k, 256 - (d + 1) = k := ⟨_, rfl⟩
 rw [show 256 - d = k + 1 by omega] at hcn
 rw [hk] at i0 ⊢
 have e : 2 * (k + 1) * a.length = 2 * k * (halfOf a d 0).length + 2 * k * (halfOf a d 1).length + 2 * a.length := by
  rw [← sa, Nat.mul_add 2 k 1, Nat.add_mul, Nat.mul_add (2 * k)]
 obtain ⟨x, hx⟩ : ∃ x, 2 * k * (halfOf a d 0).length = x := ⟨_, rfl⟩
 obtain ⟨y, hy⟩ : ∃ y, 2 * k * (halfOf a d 1).length = y := ⟨_, rfl⟩
 rw [hx] at i0
 rw [e] at hcn
 rw [hx, hy] at hcn ⊢
 omega
def CmpPost (B gp gk gc c : Nat) (ks : List ByteArray) (r : List ByteArray × Nat) (w : World) (e : Ending) (w' : World) : Prop :=
 e = .returned (.tuple #[]) ∧ ∃ v', CmpSt B gp gk gc (c + r.2) (ks ++ r.1) v' w' ∧ CmpFr B gp gk w w'
def CmpIs (B gp gk gc d k : Nat) : Prop := ∀ (a b : List It) (Aa Ab : Option Addr) (ca cb c : Nat) (ks : List ByteArray) (v : Value) (w : World), SmI a → SmI b →
 kI.R 77 w 0 (fun _ => True) (.slice Aa a.length ca) a → kI.R 77 w 0 (fun _ => True) (.slice Ab b.length cb) b → CmpSt B gp gk gc c ks v w → ks.length + a.length + b.length ≤ 1000000 → c + 1 + 2 * k * a.length ≤ 1000000000000000 →
 Calls Tryz.prog 51 #[.slice Aa a.length ca, .slice Ab b.length cb, .int .i64 (d : Int), .pointer (some ⟨gp, 0, none⟩), .pointer (some ⟨gk, 0, none⟩), .pointer (some ⟨gc, 0, none⟩)] w (CmpPost B gp gk gc c ks (cmpF k a b d) w)
set_option maxHeartbeats 8000000 in
theorem cmp_step (B gp gk gc : Nat) (n1 : gp ≠ gk) (n2 : gp ≠ gc) (n3 : gk ≠ gc) (l1 : gp < B) (l2 : gk < B) (l3 : gc < B) (d : Nat) (hd : d ≤ 256) (ih : d < 256 → CmpIs B gp gk gc (d + 1) (256 - (d + 1))) : CmpIs B gp gk gc d (256 - d) := by
 intro a b Aa Ab ca cb c ks v w hsa hsb hra hrb hst hln hcn
 have hcb : c ≤ 1000000000000000 := by omega
 have hst0 : CmpSt B gp gk gc (c + 1) ks v (w.setCell ⟨gp, 0, none⟩ (.int .i64 ((c : Int) + 1))) :=
  ⟨by have := Boxed.set (.int .i64 ((c : Int) + 1)) hst.bp; exact this, (heap_setCell_ne (Ne.symm n1)).trans hst.bk, (heap_setCell_ne (Ne.symm n2)).trans hst.bc, Kd.R_set hst.row hst.bp (by decide) 0 _, ⟨(heap_setCell_ne (fun e => by
   have h := hst.words.1
   rw [e, show w.heap[gp]? = _ from hst.bp] at h
   injection h with h; injection h with _ h _; exact absurd h (by decide))).trans hst.words.1, by rw [Rng.size_setCell]; exact hst.words.2⟩, by rw [Rng.size_setCell]; exact hst.size⟩
 have hfr0 : CmpFr B gp gk w (w.setCell ⟨gp, 0, none⟩ (.int .i64 ((c : Int) + 1))) := CmpFr.setp _
 have hcp := hst.bp.cell
 have hfp := hst.bp.frozen
 obtain ⟨w0, hw0⟩ : ∃ w0, w.setCell ⟨gp, 0, none⟩ (.int .i64 ((c : Int) + 1)) = w0 := ⟨_, rfl⟩
 rw [hw0] at hst0 hfr0
 have hra0 := R_fr hra hfr0 hst.bp hst.bk
 have hrb0 := R_fr hrb hfr0 hst.bp hst.bk
 have H0 := Aside0.mk (⟨hst0, hfr0, hra0, hrb0, hsa, hsb⟩ : _ ∧ _ ∧ _ ∧ _ ∧ _ ∧ _)
 have HW0 := Aside0.mk hw0
 have HLC := Aside0.mk (And.intro hln hcn)
 have HNE := Aside0.mk (⟨n1, n2, n3, l1, l2, l3⟩ : _ ∧ _ ∧ _ ∧ _ ∧ _ ∧ _)
 have HIH := Aside0.mk ih
 have HAC := Aside0.mk (And.intro (R_C hra0).2.1 (R_C hrb0).2.1)
 have hla := hsa.1
 have hlb := hsb.1
 obtain ⟨p, hp⟩ : ∃ p, hashOf a d = p := ⟨_, rfl⟩
 obtain ⟨q, hq⟩ : ∃ q, hashOf b d = q := ⟨_, rfl⟩
 have HPQ := Aside0.mk (And.intro hp hq)
 clear hst0 hfr0 hw0 hra0 hrb0 hra hrb hsa hsb hst hln hcn n1 n2 n3 l1 l2 l3 ih hp hq
 go_enter Tryz.func51, Tryz.ntmps51
 by_cases hpq : p = q
 ·have hres : cmpF (256 - d) a b d = ([], 1) := cmpF_same (by rw [HPQ.out.1, HPQ.out.2, hpq])
  have HRES := Aside0.mk hres
  have hdq : decide (p = q) = true := by simp [hpq]
  clear hres hpq
  go_wp2_with (first
   | (go_at_call 34; rw [HW0.out]; (with_reducible refine (hashm_calls a d hd Aa ca w0 H0.out.2.2.2.2.1 H0.out.1.words (R_C H0.out.2.2.1).2.2 HAC.out.1).mono ?_); rw [HPQ.out.1]; rintro e w1 ⟨rfl, hb1⟩; have H1 := Aside0.mk hb1; clear hb1 hcp hfp)
   | (go_at_call 34; (with_reducible refine (hashm_calls b d hd Ab cb w1 H0.out.2.2.2.2.2 (H0.out.1.words.below H1.out) (Kd.C_below (R_C H0.out.2.2.2.1).2.2 H1.out) HAC.out.2).mono ?_); rw [HPQ.out.2]; rintro e w2 ⟨rfl, hb2⟩; have H2 := Aside0.mk (H1.out.trans (hb2.mono H1.out.size)); clear hb2)
   | (refine wpList_eql rfl _ _ _ _ rfl _ _ rfl rfl gt_S _ (fun w => eqS w _ _) ?_))
  go_end0
  refine ⟨rfl, v, ?_, H0.out.2.1.trans (CmpFr.of_below H2.out)⟩
  rw [HRES.out, List.append_nil]
  exact H0.out.1.below H2.out
 ·have hne : ¬ hashOf a d = hashOf b d := by rw [HPQ.out.1, HPQ.out.2]; exact hpq
  have hdq : decide (p = q) = false := by simp [hpq]
  have HNH := Aside0.mk hne
  clear hne hpq
  by_cases hen : endsOf a d = true ∨ endsOf b d = true
  ·have hres : cmpF (256 - d) a b d = (onlyK a b ++ onlyK b a, 1) := cmpF_end hen HNH.out
   have HRES := Aside0.mk hres
   clear hres
   have hends : ∃ ea eb, endsOf a d = ea ∧ endsOf b d = eb ∧ (ea || eb) = true := ⟨_, _, rfl, rfl, by rcases hen with h | h <;> simp [h]⟩
   obtain ⟨ea, eb, h1, h2, h3⟩ := hends
   have HEN := Aside0.mk (And.intro h1 h2)
   clear h1 h2 hen
   cases ea with
   | true =>
    go_wp2_with (first
     | (go_at_call 34; rw [HW0.out]; (with_reducible refine (hashm_calls a d hd Aa ca w0 H0.out.2.2.2.2.1 H0.out.1.words (R_C H0.out.2.2.1).2.2 HAC.out.1).mono ?_); rw [HPQ.out.1]; rintro e w1 ⟨rfl, hb1⟩; have H1 := Aside0.mk hb1; clear hb1 hcp hfp)
     | (go_at_call 34; (with_reducible refine (hashm_calls b d hd Ab cb w1 H0.out.2.2.2.2.2 (H0.out.1.words.below H1.out) (Kd.C_below (R_C H0.out.2.2.2.1).2.2 H1.out) HAC.out.2).mono ?_); rw [HPQ.out.2]; rintro e w2 ⟨rfl, hb2⟩; have H2 := Aside0.mk (H1.out.trans (hb2.mono H1.out.size)); clear hb2)
     | (refine wpList_eql rfl _ _ _ _ rfl _ _ rfl rfl gt_S _ (fun w => eqS w _ _) ?_)
     | (go_at_call 52; (with_reducible refine (endsm_calls a d hd _ _ _).mono ?_); rw [HEN.out.1]; rintro e w3 ⟨rfl, e1⟩; rw [e1]; clear e1))
    go_loopw [54] (fun i wr => ∃ n : Nat, i = .int .i64 (n : Int) ∧ n ≤ a.length ∧ Aside0 (∃ v', CmpSt B gp gk gc (c + 1) (ks ++ onlyK (a.take n) b) v' wr ∧ CmpFr B gp gk w wr ∧ kI.R 77 wr 0 (fun _ => True) (.slice Aa a.length ca) a ∧ kI.R 77 wr 0 (fun _ => True) (.slice Ab b.length cb) b)) (fun i _ => a.length - (intOf i).toNat)
    case atStart =>
     refine ⟨0, rfl, by omega, ⟨⟨v, ?_, H0.out.2.1.trans (CmpFr.of_below H2.out), Kd.R_below H0.out.2.2.1 H2.out, Kd.R_below H0.out.2.2.2.1 H2.out⟩⟩⟩
     have h := H0.out.1.below H2.out
     rw [List.take_zero, show onlyK [] b = [] from rfl, List.append_nil]
     exact h
    case round =>
     obtain ⟨n, rfl, hn, HR⟩ := hrel
     obtain ⟨v', hr'⟩ := HR.out
     clear HR
     have HR := Aside0.mk hr'
     clear hr'
     by_cases c5 : n < a.length
     ·have c5b : (n : Int) < (a.length : Int) := by omega
      obtain ⟨y, hy⟩ : ∃ y, y = a.getD n zI := ⟨_, rfl⟩
      obtain ⟨ad, eA, hat⟩ := at_flat (R_C HR.out.2.2.1).2.2 zI (n : Int) (by omega) c5b
      subst eA
      rw [show ((n : Int).toNat) = n by omega, ← hy] at hat
      have c5c := eq_true c5b
      have c5d : ((0 : Int) ≤ (n : Int)) = True := eq_true (by omega)
      have hl1 := le_I hat (Below.refl _ _)
      clear hat
      have hsucc := Aside0.mk (onlyK_succ c5 b)
      rw [← hy] at hsucc
      have HY := Aside0.mk hy
      clear hy
      obtain ⟨β, hβ⟩ : ∃ β, decide (y ∈ b) = β := ⟨_, rfl⟩
      cases β with
      | true =>
       have hm : y ∈ b := of_decide_eq_true hβ
       have HM := Aside0.mk hm
       clear hm
       go_wp2_with (first
        | ((with_reducible refine gate_dst (N := 57) rfl ?_); refine wpList_loadv rfl _ _ rfl _ rfl _ (hl1 0) ?_)
        | ((with_reducible refine gate_store (t := 77) rfl ?_); (refine wpList_store_row rfl 77 (.tmp 10) (.tmp 57) rfl wr.heap.size (cI y) rfl rfl 77 (cI zI) (h_new rfl) ?g3 ?g4 (all_one (cI_one y)) ?_); (case g3 => rw [cI_size]; kernel_rfl); (case g4 => rw [cI_size, cI_size]); generalize hwv : World.setRow _ wr.heap.size (cI y) = wv; have hv1 : wv.heap[wr.heap.size]? = some (.cells (cI y) 77 (0, 0)) := (by rw [← hwv]; exact setRow_heap _ _ _ _ _ _ (h_new rfl)); have hvb : Below wr.heap.size wr wv := (by rw [← hwv]; exact below_setRow (below_alloc (Below.refl _ _) _) (Nat.le_refl _)); clear hwv; have hl2 := ld_I hv1; have HV := Aside0.mk (And.intro hv1 hvb); clear hv1 hvb hl1)
        | ((with_reducible refine gate_dst (N := 59) rfl ?_); refine wpList_loadv rfl _ _ rfl _ rfl _ (hl2 0) ?_)
        | (go_at_call 53; (refine (Contains_calls b y Ab cb wv (Kd.C_below (R_C HR.out.2.2.2).2.2 HV.out.2) HAC.out.2 (by omega)).mono ?_); rw [hβ]; rintro e w5 ⟨rfl, hb5⟩; have H5 := Aside0.mk (And.intro (below_tr HV.out.2 hb5 HV.out.2.size) ((hb5.block _ (Array.getElem?_eq_some_iff.1 HV.out.1).1).trans HV.out.1)); clear hb5 hl2))
       refine ⟨⟨n + 1, by simp, by omega, ⟨⟨v', ?_, HR.out.2.1.trans (CmpFr.of_below H5.out.1), Kd.R_below HR.out.2.2.1 H5.out.1, Kd.R_below HR.out.2.2.2 H5.out.1⟩⟩⟩, by simp [intOf]; omega⟩
       rw [hsucc.out, if_pos HM.out, List.append_nil]
       exact HR.out.1.below H5.out.1
      | false =>
       have hm : y ∉ b := of_decide_eq_false hβ
       have HM := Aside0.mk hm
       clear hm
       go_wp2_with (first
        | ((with_reducible refine gate_dst (N := 57) rfl ?_); refine wpList_loadv rfl _ _ rfl _ rfl _ (hl1 0) ?_)
        | ((with_reducible refine gate_store (t := 77) rfl ?_); (refine wpList_store_row rfl 77 (.tmp 10) (.tmp 57) rfl wr.heap.size (cI y) rfl rfl 77 (cI zI) (h_new rfl) ?g3 ?g4 (all_one (cI_one y)) ?_); (case g3 => rw [cI_size]; kernel_rfl); (case g4 => rw [cI_size, cI_size]); generalize hwv : World.setRow _ wr.heap.size (cI y) = wv; have hv1 : wv.heap[wr.heap.size]? = some (.cells (cI y) 77 (0, 0)) := (by rw [← hwv]; exact setRow_heap _ _ _ _ _ _ (h_new rfl)); have hvb : Below wr.heap.size wr wv := (by rw [← hwv]; exact below_setRow (below_alloc (Below.refl _ _) _) (Nat.le_refl _)); clear hwv; have hl2 := ld_I hv1; have HV := Aside0.mk (And.intro hv1 hvb); clear hv1 hvb hl1)
        | ((with_reducible refine gate_dst (N := 59) rfl ?_); refine wpList_loadv rfl _ _ rfl _ rfl _ (hl2 0) ?_)
        | (go_at_call 53; (refine (Contains_calls b y Ab cb wv (Kd.C_below (R_C HR.out.2.2.2).2.2 HV.out.2) HAC.out.2 (by omega)).mono ?_); rw [hβ]; rintro e w5 ⟨rfl, hb5⟩; have H5 := Aside0.mk (And.intro (below_tr HV.out.2 hb5 HV.out.2.size) ((hb5.block _ (Array.getElem?_eq_some_iff.1 HV.out.1).1).trans HV.out.1)); clear hb5 hl2; have hck := (HR.out.1.below H5.out.1).bk.cell; have hcx := cell_I0 H5.out.2)
        | (refine app_Str2 (wa := w5) rfl (.tmp 62) (.tmp 66) rfl v' _ y.x.k rfl rfl B (HR.out.1.below H5.out.1).row (Below.refl _ _) (HR.out.1.below H5.out.1).size (by have h1 := onlyK_len (a.take n) b; have h2 := List.length_take_le n a; have h3 := HLC.out.1; have h4 := onlyK_len a b; simp only [List.length_append]; omega) ?_; intro v6 w6 hr6 hb6 hg6; obtain ⟨A6, N6, c6, rfl⟩ : ∃ A n c, v6 = .slice A n c := (let ⟨A, c, e⟩ := Kd.R_slice hr6; ⟨A, _, c, e⟩); have hst6 := (HR.out.1.below H5.out.1).app HNE.out.1 HNE.out.2.2.1 HNE.out.2.2.2.1 HNE.out.2.2.2.2.1 HNE.out.2.2.2.2.2 hr6 hb6; have hbk6 : Boxed w6 gk 36 v' := (hb6.block _ HNE.out.2.2.2.2.1).trans (HR.out.1.below H5.out.1).bk; have hf6 := ((CmpFr.of_below (gp := gp) (gk := gk) (B := B) H5.out.1).trans (CmpFr.app (HR.out.1.below H5.out.1).row hg6)).trans (CmpFr.setk (.slice A6 N6 c6)); have hck6 := hbk6.cell; have hfk6 := hbk6.frozen; have H6 := Aside0.mk (And.intro hst6 hf6); clear hst6 hbk6 hr6 hb6 hg6 hf6 hck hcx))
       refine ⟨⟨n + 1, by simp, by omega, ⟨⟨.slice A6 N6 c6, ?_, HR.out.2.1.trans H6.out.2, R_fr HR.out.2.2.1 H6.out.2 HR.out.1.bp HR.out.1.bk, R_fr HR.out.2.2.2 H6.out.2 HR.out.1.bp HR.out.1.bk⟩⟩⟩, by simp [intOf]; omega⟩
       rw [hsucc.out, if_neg HM.out, ← List.append_assoc]
       exact H6.out.1
     ·obtain rfl : n = a.length := by omega
      have c5b : ¬ ((a.length : Int) < (a.length : Int)) := by omega
      go_wp2
      go_loopw [71] (fun i wr => ∃ n : Nat, i = .int .i64 (n : Int) ∧ n ≤ b.length ∧ Aside0 (∃ v', CmpSt B gp gk gc (c + 1) ((ks ++ onlyK a b) ++ onlyK (b.take n) a) v' wr ∧ CmpFr B gp gk w wr ∧ kI.R 77 wr 0 (fun _ => True) (.slice Aa a.length ca) a ∧ kI.R 77 wr 0 (fun _ => True) (.slice Ab b.length cb) b)) (fun i _ => b.length - (intOf i).toNat)
      case atStart =>
       refine ⟨0, rfl, by omega, ⟨⟨v', ?_, HR.out.2⟩⟩⟩
       have h := HR.out.1
       rw [List.take_length] at h
       rw [List.take_zero, show onlyK [] a = [] from rfl, List.append_nil]
       exact h
      case round =>
       obtain ⟨n, rfl, hn, HR⟩ := hrel
       obtain ⟨v', hr'⟩ := HR.out
       clear HR
       have HR := Aside0.mk hr'
       clear hr'
       by_cases c5 : n < b.length
       ·have c5b : (n : Int) < (b.length : Int) := by omega
        obtain ⟨y, hy⟩ : ∃ y, y = b.getD n zI := ⟨_, rfl⟩
        obtain ⟨ad, eA, hat⟩ := at_flat (R_C HR.out.2.2.2).2.2 zI (n : Int) (by omega) c5b
        subst eA
        rw [show ((n : Int).toNat) = n by omega, ← hy] at hat
        have c5c := eq_true c5b
        have c5d : ((0 : Int) ≤ (n : Int)) = True := eq_true (by omega)
        have hl1 := le_I hat (Below.refl _ _)
        clear hat
        have hsucc := Aside0.mk (onlyK_succ c5 a)
        rw [← hy] at hsucc
        have HY := Aside0.mk hy
        clear hy
        obtain ⟨β, hβ⟩ : ∃ β, decide (y ∈ a) = β := ⟨_, rfl⟩
        cases β with
        | true =>
         have hm : y ∈ a := of_decide_eq_true hβ
         have HM := Aside0.mk hm
         clear hm
         go_wp2_with (first
          | ((with_reducible refine gate_dst (N := 74) rfl ?_); refine wpList_loadv rfl _ _ rfl _ rfl _ (hl1 0) ?_)
          | ((with_reducible refine gate_store (t := 77) rfl ?_); (refine wpList_store_row rfl 77 (.tmp 12) (.tmp 74) rfl wr.heap.size (cI y) rfl rfl 77 (cI zI) (h_new rfl) ?g3 ?g4 (all_one (cI_one y)) ?_); (case g3 => rw [cI_size]; kernel_rfl); (case g4 => rw [cI_size, cI_size]); generalize hwv : World.setRow _ wr.heap.size (cI y) = wv; have hv1 : wv.heap[wr.heap.size]? = some (.cells (cI y) 77 (0, 0)) := (by rw [← hwv]; exact setRow_heap _ _ _ _ _ _ (h_new rfl)); have hvb : Below wr.heap.size wr wv := (by rw [← hwv]; exact below_setRow (below_alloc (Below.refl _ _) _) (Nat.le_refl _)); clear hwv; have hl2 := ld_I hv1; have HV := Aside0.mk (And.intro hv1 hvb); clear hv1 hvb hl1)
          | ((with_reducible refine gate_dst (N := 76) rfl ?_); refine wpList_loadv rfl _ _ rfl _ rfl _ (hl2 0) ?_)
          | (go_at_call 53; (refine (Contains_calls a y Aa ca wv (Kd.C_below (R_C HR.out.2.2.1).2.2 HV.out.2) HAC.out.1 (by omega)).mono ?_); rw [hβ]; rintro e w5 ⟨rfl, hb5⟩; have H5 := Aside0.mk (And.intro (below_tr HV.out.2 hb5 HV.out.2.size) ((hb5.block _ (Array.getElem?_eq_some_iff.1 HV.out.1).1).trans HV.out.1)); clear hb5 hl2))
         refine ⟨⟨n + 1, by simp, by omega, ⟨⟨v', ?_, HR.out.2.1.trans (CmpFr.of_below H5.out.1), Kd.R_below HR.out.2.2.1 H5.out.1, Kd.R_below HR.out.2.2.2 H5.out.1⟩⟩⟩, by simp [intOf]; omega⟩
         rw [hsucc.out, if_pos HM.out, List.append_nil]
         exact HR.out.1.below H5.out.1
        | false =>
         have hm : y ∉ a := of_decide_eq_false hβ
         have HM := Aside0.mk hm
         clear hm
         go_wp2_with (first
          | ((with_reducible refine gate_dst (N := 74) rfl ?_); refine wpList_loadv rfl _ _ rfl _ rfl _ (hl1 0) ?_)
          | ((with_reducible refine gate_store (t := 77) rfl ?_); (refine wpList_store_row rfl 77 (.tmp 12) (.tmp 74) rfl wr.heap.size (cI y) rfl rfl 77 (cI zI) (h_new rfl) ?g3 ?g4 (all_one (cI_one y)) ?_); (case g3 => rw [cI_size]; kernel_rfl); (case g4 => rw [cI_size, cI_size]); generalize hwv : World.setRow _ wr.heap.size (cI y) = wv; have hv1 : wv.heap[wr.heap.size]? = some (.cells (cI y) 77 (0, 0)) := (by rw [← hwv]; exact setRow_heap _ _ _ _ _ _ (h_new rfl)); have hvb : Below wr.heap.size wr wv := (by rw [← hwv]; exact below_setRow (below_alloc (Below.refl _ _) _) (Nat.le_refl _)); clear hwv; have hl2 := ld_I hv1; have HV := Aside0.mk (And.intro hv1 hvb); clear hv1 hvb hl1)
          | ((with_reducible refine gate_dst (N := 76) rfl ?_); refine wpList_loadv rfl _ _ rfl _ rfl _ (hl2 0) ?_)
          | (go_at_call 53; (refine (Contains_calls a y Aa ca wv (Kd.C_below (R_C HR.out.2.2.1).2.2 HV.out.2) HAC.out.1 (by omega)).mono ?_); rw [hβ]; rintro e w5 ⟨rfl, hb5⟩; have H5 := Aside0.mk (And.intro (below_tr HV.out.2 hb5 HV.out.2.size) ((hb5.block _ (Array.getElem?_eq_some_iff.1 HV.out.1).1).trans HV.out.1)); clear hb5 hl2; have hck := (HR.out.1.below H5.out.1).bk.cell; have hcx := cell_I0 H5.out.2)
          | (refine app_Str2 (wa := w5) rfl (.tmp 79) (.tmp 83) rfl v' _ y.x.k rfl rfl B (HR.out.1.below H5.out.1).row (Below.refl _ _) (HR.out.1.below H5.out.1).size (by have h1 := onlyK_len (b.take n) a; have h2 := List.length_take_le n b; have h3 := HLC.out.1; have h4 := onlyK_len a b; simp only [List.length_append]; omega) ?_; intro v6 w6 hr6 hb6 hg6; obtain ⟨A6, N6, c6, rfl⟩ : ∃ A n c, v6 = .slice A n c := (let ⟨A, c, e⟩ := Kd.R_slice hr6; ⟨A, _, c, e⟩); have hst6 := (HR.out.1.below H5.out.1).app HNE.out.1 HNE.out.2.2.1 HNE.out.2.2.2.1 HNE.out.2.2.2.2.1 HNE.out.2.2.2.2.2 hr6 hb6; have hbk6 : Boxed w6 gk 36 v' := (hb6.block _ HNE.out.2.2.2.2.1).trans (HR.out.1.below H5.out.1).bk; have hf6 := ((CmpFr.of_below (gp := gp) (gk := gk) (B := B) H5.out.1).trans (CmpFr.app (HR.out.1.below H5.out.1).row hg6)).trans (CmpFr.setk (.slice A6 N6 c6)); have hck6 := hbk6.cell; have hfk6 := hbk6.frozen; have H6 := Aside0.mk (And.intro hst6 hf6); clear hst6 hbk6 hr6 hb6 hg6 hf6 hck hcx))
         refine ⟨⟨n + 1, by simp, by omega, ⟨⟨.slice A6 N6 c6, ?_, HR.out.2.1.trans H6.out.2, R_fr HR.out.2.2.1 H6.out.2 HR.out.1.bp HR.out.1.bk, R_fr HR.out.2.2.2 H6.out.2 HR.out.1.bp HR.out.1.bk⟩⟩⟩, by simp [intOf]; omega⟩
         rw [hsucc.out, if_neg HM.out, ← List.append_assoc]
         exact H6.out.1
       ·obtain rfl : n = b.length := by omega
        have c5b : ¬ ((b.length : Int) < (b.length : Int)) := by omega
        go_wp2
        go_end0
        refine ⟨rfl, v', ?_, HR.out.2.1⟩
        rw [HRES.out]
        have h := HR.out.1
        rw [List.take_length, List.append_assoc] at h
        exact h
   | false =>
    cases eb with
    | false => exact absurd h3 (by decide)
    | true =>
     go_wp2_with (first
      | (go_at_call 34; rw [HW0.out]; (with_reducible refine (hashm_calls a d hd Aa ca w0 H0.out.2.2.2.2.1 H0.out.1.words (R_C H0.out.2.2.1).2.2 HAC.out.1).mono ?_); rw [HPQ.out.1]; rintro e w1 ⟨rfl, hb1⟩; have H1 := Aside0.mk hb1; clear hb1 hcp hfp)
      | (go_at_call 34; (with_reducible refine (hashm_calls b d hd Ab cb w1 H0.out.2.2.2.2.2 (H0.out.1.words.below H1.out) (Kd.C_below (R_C H0.out.2.2.2.1).2.2 H1.out) HAC.out.2).mono ?_); rw [HPQ.out.2]; rintro e w2 ⟨rfl, hb2⟩; have H2 := Aside0.mk (H1.out.trans (hb2.mono H1.out.size)); clear hb2)
      | (refine wpList_eql rfl _ _ _ _ rfl _ _ rfl rfl gt_S _ (fun w => eqS w _ _) ?_)
      | (go_at_call 52; (with_reducible refine (endsm_calls a d hd _ _ _).mono ?_); rw [HEN.out.1]; rintro e w3 ⟨rfl, e1⟩; rw [e1]; clear e1)
      | (go_at_call 52; (with_reducible refine (endsm_calls b d hd _ _ _).mono ?_); rw [HEN.out.2]; rintro e w4 ⟨rfl, e1⟩; rw [e1]; clear e1))
     go_loopw [54] (fun i wr => ∃ n : Nat, i = .int .i64 (n : Int) ∧ n ≤ a.length ∧ Aside0 (∃ v', CmpSt B gp gk gc (c + 1) (ks ++ onlyK (a.take n) b) v' wr ∧ CmpFr B gp gk w wr ∧ kI.R 77 wr 0 (fun _ => True) (.slice Aa a.length ca) a ∧ kI.R 77 wr 0 (fun _ => True) (.slice Ab b.length cb) b)) (fun i _ => a.length - (intOf i).toNat)
     case atStart =>
      refine ⟨0, rfl, by omega, ⟨⟨v, ?_, H0.out.2.1.trans (CmpFr.of_below H2.out), Kd.R_below H0.out.2.2.1 H2.out, Kd.R_below H0.out.2.2.2.1 H2.out⟩⟩⟩
      have h := H0.out.1.below H2.out
      rw [List.take_zero, show onlyK [] b = [] from rfl, List.append_nil]
      exact h
     case round =>
      obtain ⟨n, rfl, hn, HR⟩ := hrel
      obtain ⟨v', hr'⟩ := HR.out
      clear HR
      have HR := Aside0.mk hr'
      clear hr'
      by_cases c5 : n < a.length
      ·have c5b : (n : Int) < (a.length : Int) := by omega
       obtain ⟨y, hy⟩ : ∃ y, y = a.getD n zI := ⟨_, rfl⟩
       obtain ⟨ad, eA, hat⟩ := at_flat (R_C HR.out.2.2.1).2.2 zI (n : Int) (by omega) c5b
       subst eA
       rw [show ((n : Int).toNat) = n by omega, ← hy] at hat
       have c5c := eq_true c5b
       have c5d : ((0 : Int) ≤ (n : Int)) = True := eq_true (by omega)
       have hl1 := le_I hat (Below.refl _ _)
       clear hat
       have hsucc := Aside0.mk (onlyK_succ c5 b)
       rw [← hy] at hsucc
       have HY := Aside0.mk hy
       clear hy
       obtain ⟨β, hβ⟩ : ∃ β, decide (y ∈ b) = β := ⟨_, rfl⟩
       cases β with
       | true =>
        have hm : y ∈ b := of_decide_eq_true hβ
        have HM := Aside0.mk hm
        clear hm
        go_wp2_with (first
         | ((with_reducible refine gate_dst (N := 57) rfl ?_); refine wpList_loadv rfl _ _ rfl _ rfl _ (hl1 0) ?_)
         | ((with_reducible refine gate_store (t := 77) rfl ?_); (refine wpList_store_row rfl 77 (.tmp 10) (.tmp 57) rfl wr.heap.size (cI y) rfl rfl 77 (cI zI) (h_new rfl) ?g3 ?g4 (all_one (cI_one y)) ?_); (case g3 => rw [cI_size]; kernel_rfl); (case g4 => rw [cI_size, cI_size]); generalize hwv : World.setRow _ wr.heap.size (cI y) = wv; have hv1 : wv.heap[wr.heap.size]? = some (.cells (cI y) 77 (0, 0)) := (by rw [← hwv]; exact setRow_heap _ _ _ _ _ _ (h_new rfl)); have hvb : Below wr.heap.size wr wv := (by rw [← hwv]; exact below_setRow (below_alloc (Below.refl _ _) _) (Nat.le_refl _)); clear hwv; have hl2 := ld_I hv1; have HV := Aside0.mk (And.intro hv1 hvb); clear hv1 hvb hl1)
         | ((with_reducible refine gate_dst (N := 59) rfl ?_); refine wpList_loadv rfl _ _ rfl _ rfl _ (hl2 0) ?_)
         | (go_at_call 53; (refine (Contains_calls b y Ab cb wv (Kd.C_below (R_C HR.out.2.2.2).2.2 HV.out.2) HAC.out.2 (by omega)).mono ?_); rw [hβ]; rintro e w5 ⟨rfl, hb5⟩; have H5 := Aside0.mk (And.intro (below_tr HV.out.2 hb5 HV.out.2.size) ((hb5.block _ (Array.getElem?_eq_some_iff.1 HV.out.1).1).trans HV.out.1)); clear hb5 hl2))
        refine ⟨⟨n + 1, by simp, by omega, ⟨⟨v', ?_, HR.out.2.1.trans (CmpFr.of_below H5.out.1), Kd.R_below HR.out.2.2.1 H5.out.1, Kd.R_below HR.out.2.2.2 H5.out.1⟩⟩⟩, by simp [intOf]; omega⟩
        rw [hsucc.out, if_pos HM.out, List.append_nil]
        exact HR.out.1.below H5.out.1
       | false =>
        have hm : y ∉ b := of_decide_eq_false hβ
        have HM := Aside0.mk hm
        clear hm
        go_wp2_with (first
         | ((with_reducible refine gate_dst (N := 57) rfl ?_); refine wpList_loadv rfl _ _ rfl _ rfl _ (hl1 0) ?_)
         | ((with_reducible refine gate_store (t := 77) rfl ?_); (refine wpList_store_row rfl 77 (.tmp 10) (.tmp 57) rfl wr.heap.size (cI y) rfl rfl 77 (cI zI) (h_new rfl) ?g3 ?g4 (all_one (cI_one y)) ?_); (case g3 => rw [cI_size]; kernel_rfl); (case g4 => rw [cI_size, cI_size]); generalize hwv : World.setRow _ wr.heap.size (cI y) = wv; have hv1 : wv.heap[wr.heap.size]? = some (.cells (cI y) 77 (0, 0)) := (by rw [← hwv]; exact setRow_heap _ _ _ _ _ _ (h_new rfl)); have hvb : Below wr.heap.size wr wv := (by rw [← hwv]; exact below_setRow (below_alloc (Below.refl _ _) _) (Nat.le_refl _)); clear hwv; have hl2 := ld_I hv1; have HV := Aside0.mk (And.intro hv1 hvb); clear hv1 hvb hl1)
         | ((with_reducible refine gate_dst (N := 59) rfl ?_); refine wpList_loadv rfl _ _ rfl _ rfl _ (hl2 0) ?_)
         | (go_at_call 53; (refine (Contains_calls b y Ab cb wv (Kd.C_below (R_C HR.out.2.2.2).2.2 HV.out.2) HAC.out.2 (by omega)).mono ?_); rw [hβ]; rintro e w5 ⟨rfl, hb5⟩; have H5 := Aside0.mk (And.intro (below_tr HV.out.2 hb5 HV.out.2.size) ((hb5.block _ (Array.getElem?_eq_some_iff.1 HV.out.1).1).trans HV.out.1)); clear hb5 hl2; have hck := (HR.out.1.below H5.out.1).bk.cell; have hcx := cell_I0 H5.out.2)
         | (refine app_Str2 (wa := w5) rfl (.tmp 62) (.tmp 66) rfl v' _ y.x.k rfl rfl B (HR.out.1.below H5.out.1).row (Below.refl _ _) (HR.out.1.below H5.out.1).size (by have h1 := onlyK_len (a.take n) b; have h2 := List.length_take_le n a; have h3 := HLC.out.1; have h4 := onlyK_len a b; simp only [List.length_append]; omega) ?_; intro v6 w6 hr6 hb6 hg6; obtain ⟨A6, N6, c6, rfl⟩ : ∃ A n c, v6 = .slice A n c := (let ⟨A, c, e⟩ := Kd.R_slice hr6; ⟨A, _, c, e⟩); have hst6 := (HR.out.1.below H5.out.1).app HNE.out.1 HNE.out.2.2.1 HNE.out.2.2.2.1 HNE.out.2.2.2.2.1 HNE.out.2.2.2.2.2 hr6 hb6; have hbk6 : Boxed w6 gk 36 v' := (hb6.block _ HNE.out.2.2.2.2.1).trans (HR.out.1.below H5.out.1).bk; have hf6 := ((CmpFr.of_below (gp := gp) (gk := gk) (B := B) H5.out.1).trans (CmpFr.app (HR.out.1.below H5.out.1).row hg6)).trans (CmpFr.setk (.slice A6 N6 c6)); have hck6 := hbk6.cell; have hfk6 := hbk6.frozen; have H6 := Aside0.mk (And.intro hst6 hf6); clear hst6 hbk6 hr6 hb6 hg6 hf6 hck hcx))
        refine ⟨⟨n + 1, by simp, by omega, ⟨⟨.slice A6 N6 c6, ?_, HR.out.2.1.trans H6.out.2, R_fr HR.out.2.2.1 H6.out.2 HR.out.1.bp HR.out.1.bk, R_fr HR.out.2.2.2 H6.out.2 HR.out.1.bp HR.out.1.bk⟩⟩⟩, by simp [intOf]; omega⟩
        rw [hsucc.out, if_neg HM.out, ← List.append_assoc]
        exact H6.out.1
      ·obtain rfl : n = a.length := by omega
       have c5b : ¬ ((a.length : Int) < (a.length : Int)) := by omega
       go_wp2
       go_loopw [71] (fun i wr => ∃ n : Nat, i = .int .i64 (n : Int) ∧ n ≤ b.length ∧ Aside0 (∃ v', CmpSt B gp gk gc (c + 1) ((ks ++ onlyK a b) ++ onlyK (b.take n) a) v' wr ∧ CmpFr B gp gk w wr ∧ kI.R 77 wr 0 (fun _ => True) (.slice Aa a.length ca) a ∧ kI.R 77 wr 0 (fun _ => True) (.slice Ab b.length cb) b)) (fun i _ => b.length - (intOf i).toNat)
       case atStart =>
        refine ⟨0, rfl, by omega, ⟨⟨v', ?_, HR.out.2⟩⟩⟩
        have h := HR.out.1
        rw [List.take_length] at h
        rw [List.take_zero, show onlyK [] a = [] from rfl, List.append_nil]
        exact h
       case round =>
        obtain ⟨n, rfl, hn, HR⟩ := hrel
        obtain ⟨v', hr'⟩ := HR.out
        clear HR
        have HR := Aside0.mk hr'
        clear hr'
        by_cases c5 : n < b.length
        ·have c5b : (n : Int) < (b.length : Int) := by omega
         obtain ⟨y, hy⟩ : ∃ y, y = b.getD n zI := ⟨_, rfl⟩
         obtain ⟨ad, eA, hat⟩ := at_flat (R_C HR.out.2.2.2).2.2 zI (n : Int) (by omega) c5b
         subst eA
         rw [show ((n : Int).toNat) = n by omega, ← hy] at hat
         have c5c := eq_true c5b
         have c5d : ((0 : Int) ≤ (n : Int)) = True := eq_true (by omega)
         have hl1 := le_I hat (Below.refl _ _)
         clear hat
         have hsucc := Aside0.mk (onlyK_succ c5 a)
         rw [← hy] at hsucc
         have HY := Aside0.mk hy
         clear hy
         obtain ⟨β, hβ⟩ : ∃ β, decide (y ∈ a) = β := ⟨_, rfl⟩
         cases β with
         | true =>
          have hm : y ∈ a := of_decide_eq_true hβ
          have HM := Aside0.mk hm
          clear hm
          go_wp2_with (first
           | ((with_reducible refine gate_dst (N := 74) rfl ?_); refine wpList_loadv rfl _ _ rfl _ rfl _ (hl1 0) ?_)
           | ((with_reducible refine gate_store (t := 77) rfl ?_); (refine wpList_store_row rfl 77 (.tmp 12) (.tmp 74) rfl wr.heap.size (cI y) rfl rfl 77 (cI zI) (h_new rfl) ?g3 ?g4 (all_one (cI_one y)) ?_); (case g3 => rw [cI_size]; kernel_rfl); (case g4 => rw [cI_size, cI_size]); generalize hwv : World.setRow _ wr.heap.size (cI y) = wv; have hv1 : wv.heap[wr.heap.size]? = some (.cells (cI y) 77 (0, 0)) := (by rw [← hwv]; exact setRow_heap _ _ _ _ _ _ (h_new rfl)); have hvb : Below wr.heap.size wr wv := (by rw [← hwv]; exact below_setRow (below_alloc (Below.refl _ _) _) (Nat.le_refl _)); clear hwv; have hl2 := ld_I hv1; have HV := Aside0.mk (And.intro hv1 hvb); clear hv1 hvb hl1)
           | ((with_reducible refine gate_dst (N := 76) rfl ?_); refine wpList_loadv rfl _ _ rfl _ rfl _ (hl2 0) ?_)
           | (go_at_call 53; (refine (Contains_calls a y Aa ca wv (Kd.C_below (R_C HR.out.2.2.1).2.2 HV.out.2) HAC.out.1 (by omega)).mono ?_); rw [hβ]; rintro e w5 ⟨rfl, hb5⟩; have H5 := Aside0.mk (And.intro (below_tr HV.out.2 hb5 HV.out.2.size) ((hb5.block _ (Array.getElem?_eq_some_iff.1 HV.out.1).1).trans HV.out.1)); clear hb5 hl2))
          refine ⟨⟨n + 1, by simp, by omega, ⟨⟨v', ?_, HR.out.2.1.trans (CmpFr.of_below H5.out.1), Kd.R_below HR.out.2.2.1 H5.out.1, Kd.R_below HR.out.2.2.2 H5.out.1⟩⟩⟩, by simp [intOf]; omega⟩
          rw [hsucc.out, if_pos HM.out, List.append_nil]
          exact HR.out.1.below H5.out.1
         | false =>
          have hm : y ∉ a := of_decide_eq_false hβ
          have HM := Aside0.mk hm
          clear hm
          go_wp2_with (first
           | ((with_reducible refine gate_dst (N := 74) rfl ?_); refine wpList_loadv rfl _ _ rfl _ rfl _ (hl1 0) ?_)
           | ((with_reducible refine gate_store (t := 77) rfl ?_); (refine wpList_store_row rfl 77 (.tmp 12) (.tmp 74) rfl wr.heap.size (cI y) rfl rfl 77 (cI zI) (h_new rfl) ?g3 ?g4 (all_one (cI_one y)) ?_); (case g3 => rw [cI_size]; kernel_rfl); (case g4 => rw [cI_size, cI_size]); generalize hwv : World.setRow _ wr.heap.size (cI y) = wv; have hv1 : wv.heap[wr.heap.size]? = some (.cells (cI y) 77 (0, 0)) := (by rw [← hwv]; exact setRow_heap _ _ _ _ _ _ (h_new rfl)); have hvb : Below wr.heap.size wr wv := (by rw [← hwv]; exact below_setRow (below_alloc (Below.refl _ _) _) (Nat.le_refl _)); clear hwv; have hl2 := ld_I hv1; have HV := Aside0.mk (And.intro hv1 hvb); clear hv1 hvb hl1)
           | ((with_reducible refine gate_dst (N := 76) rfl ?_); refine wpList_loadv rfl _ _ rfl _ rfl _ (hl2 0) ?_)
           | (go_at_call 53; (refine (Contains_calls a y Aa ca wv (Kd.C_below (R_C HR.out.2.2.1).2.2 HV.out.2) HAC.out.1 (by omega)).mono ?_); rw [hβ]; rintro e w5 ⟨rfl, hb5⟩; have H5 := Aside0.mk (And.intro (below_tr HV.out.2 hb5 HV.out.2.size) ((hb5.block _ (Array.getElem?_eq_some_iff.1 HV.out.1).1).trans HV.out.1)); clear hb5 hl2; have hck := (HR.out.1.below H5.out.1).bk.cell; have hcx := cell_I0 H5.out.2)
           | (refine app_Str2 (wa := w5) rfl (.tmp 79) (.tmp 83) rfl v' _ y.x.k rfl rfl B (HR.out.1.below H5.out.1).row (Below.refl _ _) (HR.out.1.below H5.out.1).size (by have h1 := onlyK_len (b.take n) a; have h2 := List.length_take_le n b; have h3 := HLC.out.1; have h4 := onlyK_len a b; simp only [List.length_append]; omega) ?_; intro v6 w6 hr6 hb6 hg6; obtain ⟨A6, N6, c6, rfl⟩ : ∃ A n c, v6 = .slice A n c := (let ⟨A, c, e⟩ := Kd.R_slice hr6; ⟨A, _, c, e⟩); have hst6 := (HR.out.1.below H5.out.1).app HNE.out.1 HNE.out.2.2.1 HNE.out.2.2.2.1 HNE.out.2.2.2.2.1 HNE.out.2.2.2.2.2 hr6 hb6; have hbk6 : Boxed w6 gk 36 v' := (hb6.block _ HNE.out.2.2.2.2.1).trans (HR.out.1.below H5.out.1).bk; have hf6 := ((CmpFr.of_below (gp := gp) (gk := gk) (B := B) H5.out.1).trans (CmpFr.app (HR.out.1.below H5.out.1).row hg6)).trans (CmpFr.setk (.slice A6 N6 c6)); have hck6 := hbk6.cell; have hfk6 := hbk6.frozen; have H6 := Aside0.mk (And.intro hst6 hf6); clear hst6 hbk6 hr6 hb6 hg6 hf6 hck hcx))
          refine ⟨⟨n + 1, by simp, by omega, ⟨⟨.slice A6 N6 c6, ?_, HR.out.2.1.trans H6.out.2, R_fr HR.out.2.2.1 H6.out.2 HR.out.1.bp HR.out.1.bk, R_fr HR.out.2.2.2 H6.out.2 HR.out.1.bp HR.out.1.bk⟩⟩⟩, by simp [intOf]; omega⟩
          rw [hsucc.out, if_neg HM.out, ← List.append_assoc]
          exact H6.out.1
        ·obtain rfl : n = b.length := by omega
         have c5b : ¬ ((b.length : Int) < (b.length : Int)) := by omega
         go_wp2
         go_end0
         refine ⟨rfl, v', ?_, HR.out.2.1⟩
         rw [HRES.out]
         have h := HR.out.1
         rw [List.take_length, List.append_assoc] at h
         exact h
  ·have ha0 : endsOf a d = false := by cases h : endsOf a d <;> simp_all
   have hb0 : endsOf b d = false := by cases h : endsOf b d <;> simp_all
   have hres := cmpF_go HNH.out ha0 hb0
   have HRES := Aside0.mk hres
   have HEN := Aside0.mk (And.intro ha0 hb0)
   have hd1 := (ends_lt ha0).1
   have HSZ := Aside0.mk (cmp_sizes (n := ks.length) ha0 HLC.out.1 HLC.out.2)
   clear hres ha0 hb0 hen
   obtain ⟨a0, ha0⟩ : ∃ x, halfOf a d 0 = x := ⟨_, rfl⟩
   obtain ⟨b0, hb0⟩ : ∃ x, halfOf b d 0 = x := ⟨_, rfl⟩
   obtain ⟨a1, ha1⟩ : ∃ x, halfOf a d 1 = x := ⟨_, rfl⟩
   obtain ⟨b1, hb1⟩ : ∃ x, halfOf b d 1 = x := ⟨_, rfl⟩
   have HSM := Aside0.mk (⟨by rw [← ha0]; exact H0.out.2.2.2.2.1.half d 0, by rw [← hb0]; exact H0.out.2.2.2.2.2.half d 0, by rw [← ha1]; exact H0.out.2.2.2.2.1.half d 1, by rw [← hb1]; exact H0.out.2.2.2.2.2.half d 1⟩ : SmI a0 ∧ SmI b0 ∧ SmI a1 ∧ SmI b1)
   rw [ha0, hb0, ha1, hb1] at HRES HSZ
   have HAB := Aside0.mk (⟨ha0, hb0, ha1, hb1⟩ : _ ∧ _ ∧ _ ∧ _)
   clear ha0 hb0 ha1 hb1
   obtain ⟨r0, hr0⟩ : ∃ x, cmpF (256 - (d + 1)) a0 b0 (d + 1) = x := ⟨_, rfl⟩
   obtain ⟨r1, hr1⟩ : ∃ x, cmpF (256 - (d + 1)) a1 b1 (d + 1) = x := ⟨_, rfl⟩
   rw [hr0, hr1] at HRES
   rw [hr0] at HSZ
   have HRR := Aside0.mk (⟨hr0, hr1⟩ : _ ∧ _)
   clear hr0 hr1
   go_wp2_with (first
    | (go_at_call 34; rw [HW0.out]; (with_reducible refine (hashm_calls a d hd Aa ca w0 H0.out.2.2.2.2.1 H0.out.1.words (R_C H0.out.2.2.1).2.2 HAC.out.1).mono ?_); rw [HPQ.out.1]; rintro e w1 ⟨rfl, hb1⟩; have H1 := Aside0.mk hb1; clear hb1 hcp hfp)
    | (go_at_call 34; (with_reducible refine (hashm_calls b d hd Ab cb w1 H0.out.2.2.2.2.2 (H0.out.1.words.below H1.out) (Kd.C_below (R_C H0.out.2.2.2.1).2.2 H1.out) HAC.out.2).mono ?_); rw [HPQ.out.2]; rintro e w2 ⟨rfl, hb2⟩; have H2 := Aside0.mk (H1.out.trans (hb2.mono H1.out.size)); clear hb2)
    | (refine wpList_eql rfl _ _ _ _ rfl _ _ rfl rfl gt_S _ (fun w => eqS w _ _) ?_)
    | (go_at_call 52; (with_reducible refine (endsm_calls a d hd _ _ _).mono ?_); rw [HEN.out.1]; rintro e w3 ⟨rfl, e1⟩; rw [e1]; clear e1)
    | (go_at_call 52; (with_reducible refine (endsm_calls b d hd _ _ _).mono ?_); rw [HEN.out.2]; rintro e w4 ⟨rfl, e1⟩; rw [e1]; clear e1))
   have hst2 := H0.out.1.below H2.out
   have hra2 := Kd.R_below H0.out.2.2.1 H2.out
   have hrb2 := Kd.R_below H0.out.2.2.2.1 H2.out
   have hfr2 : CmpFr B gp gk w w2 := H0.out.2.1.trans (CmpFr.of_below H2.out)
   have G2 := Aside0.mk (⟨hst2, hra2, hrb2, hfr2⟩ : _ ∧ _ ∧ _ ∧ _)
   clear hst2 hra2 hrb2 hfr2
   have HWR := Aside0.mk (show IntKind.i64.wrap ((d : Int) + 1) = (d : Int) + 1 from by rw [i64_w]; unfold wrap64; omega)
   refine start_ (n := 10) (S := fun w' => Below w2.heap.size w2 w') (ds := [9]) #[false, false, false, false, false, false, false, false, false, false] (by kernel_rfl) rfl rfl (Below.refl _ _).drew (fun hHeld => ?_)
   refine pure_ (i := 1) (N := some 16) (v := ?_) (a' := ?_) #[false, true, false, false, false, false, false, false, false, false] rfl rfl (by kernel_rfl) (fun _ _ _ h => h) (Or.inl ⟨by rfl, ?_⟩) ?_ ?_
   rotate_left
   ·intro w'
    go_simp
    with_reducible rfl
   rotate_left
   ·simp only [Act.put, lZa, lZb, lZc, i64_w, i32_w]
    rfl
   refine pure_ (i := 2) (N := some 17) (v := ?_) (a' := ?_) #[false, true, true, false, false, false, false, false, false, false] rfl rfl (by kernel_rfl) (fun _ _ _ h => h) (Or.inl ⟨by rfl, ?_⟩) ?_ ?_
   rotate_left
   ·intro w'
    go_simp
    with_reducible rfl
   rotate_left
   ·simp only [Act.put, lZa, lZb, lZc, i64_w, i32_w]
    rfl
   refine pure_ (i := 4) (N := some 19) (v := ?_) (a' := ?_) #[false, true, true, false, true, false, false, false, false, false] rfl rfl (by kernel_rfl) (fun _ _ _ h => h) (Or.inl ⟨by rfl, ?_⟩) ?_ ?_
   rotate_left
   ·intro w'
    go_simp
    with_reducible rfl
   rotate_left
   ·simp only [Act.put, lZa, lZb, lZc, i64_w, i32_w]
    rfl
   refine pure_ (i := 5) (N := some 20) (v := ?_) (a' := ?_) #[false, true, true, false, true, true, false, false, false, false] rfl rfl (by kernel_rfl) (fun _ _ _ h => h) (Or.inl ⟨by rfl, ?_⟩) ?_ ?_
   rotate_left
   ·intro w'
    go_simp
    with_reducible rfl
   rotate_left
   ·simp only [Act.put, lZa, lZb, lZc, i64_w, i32_w]
    rfl
   refine pure_ (i := 7) (N := some 22) (v := ?_) (a' := ?_) #[false, true, true, false, true, true, false, true, false, false] rfl rfl (by kernel_rfl) (fun _ _ _ h => h) (Or.inl ⟨by rfl, ?_⟩) ?_ ?_
   rotate_left
   ·intro w'
    go_simp
    with_reducible rfl
   rotate_left
   ·simp only [Act.put, lZa, lZb, lZc, i64_w, i32_w]
    rfl
   refine pure_ (i := 8) (N := some 23) (v := ?_) (a' := ?_) #[false, true, true, false, true, true, false, true, true, false] rfl rfl (by kernel_rfl) (fun _ _ _ h => h) (Or.inl ⟨by rfl, ?_⟩) ?_ ?_
   rotate_left
   ·intro w'
    go_simp
    rw [HWR.out]
    try with_reducible rfl
   rotate_left
   ·simp only [Act.put, lZa, lZb, lZc, i64_w, i32_w]
    rfl
   refine take_ (i := 0) (N := some 15) (v := ?_) (a' := ?_) #[true, true, true, false, true, true, false, true, true, false] rfl rfl (by kernel_rfl) (fun _ _ _ h => h) (Or.inl ⟨by rfl, ?_⟩) hHeld ?_ ?_
   rotate_left
   ·intro w' hS
    have hx := (G2.out.1.below hS).bc.cell
    go_simp
    with_reducible rfl
   rotate_left
   ·simp only [Act.put, lZa, lZb, lZc, i64_w, i32_w]
    rfl
   refine one_ (i := 3) (N := some 18) #[true, true, true, true, true, true, false, true, true, false] rfl rfl (by kernel_rfl) (by decide) (fun K hK => ?_)
   refine goes_ Tryz.func54 (by kernel_rfl) rfl #[.slice Aa a.length ca, .int .i64 d, .int .i64 0] (by rfl) rfl rfl (by simp only [List.map_toArray, List.map_cons, List.map_nil]; rfl) ?_
   refine (halfm_calls a d hd1 0 Aa ca _ (Kd.C_below (R_C G2.out.2.1).2.2 hHeld) HAC.out.1 hla).mono ?_
   rw [HAB.out.1]
   rintro e x3 ⟨v3, rfl, hv3, hb3⟩
   obtain ⟨A3, c3, rfl⟩ := Kd.R_slice hv3
   refine ⟨_, rfl, ?_⟩
   refine hK.out _ _ (below_tr hHeld hb3 hHeld.size) (fun hHeld => ?_)
   clear hK K
   refine norm_ (a' := ?_) ?_ ?_
   rotate_left
   ·show Act.put _ (some 18) _ = _
    simp only [Act.put, lZa, lZb, lZc, i64_w, i32_w]
    rfl
   refine one_ (i := 6) (N := some 21) #[true, true, true, true, true, true, true, true, true, false] rfl rfl (by kernel_rfl) (by decide) (fun K hK => ?_)
   refine goes_ Tryz.func54 (by kernel_rfl) rfl #[.slice Ab b.length cb, .int .i64 d, .int .i64 0] (by rfl) rfl rfl (by simp only [List.map_toArray, List.map_cons, List.map_nil]; rfl) ?_
   refine (halfm_calls b d hd1 0 Ab cb _ (Kd.C_below (R_C G2.out.2.2.1).2.2 hHeld) HAC.out.2 hlb).mono ?_
   rw [HAB.out.2.1]
   rintro e x4 ⟨v4, rfl, hv4, hb4⟩
   obtain ⟨A4, c4, rfl⟩ := Kd.R_slice hv4
   refine ⟨_, rfl, ?_⟩
   refine hK.out _ _ (below_tr hHeld hb4 hHeld.size) (fun hHeld => ?_)
   clear hK K
   refine norm_ (a' := ?_) ?_ ?_
   rotate_left
   ·show Act.put _ (some 21) _ = _
    simp only [Act.put, lZa, lZb, lZc, i64_w, i32_w]
    rfl
   have hB4 : CmpFr B gp gk w2 x4 := CmpFr.of_below hHeld
   have GV := Aside0.mk (⟨Kd.R_below (Kd.R_lower hv3 (Nat.zero_le _)) hb4, Kd.R_lower hv4 (Nat.zero_le _), G2.out.1.below hHeld, hB4⟩ : _ ∧ _ ∧ _ ∧ _)
   have hI := HIH.out hd1 a0 b0 A3 A4 c3 c4 (c + 1) ks v x4 HSM.out.1 HSM.out.2.1 GV.out.1 GV.out.2.1 GV.out.2.2.1 HSZ.out.1 HSZ.out.2.1
   rw [HRR.out.1, show ((d + 1 : Nat) : Int) = (d : Int) + 1 from by omega] at hI
   have HI := Aside0.mk hI
   clear hI hv3 hv4 hB4
   refine tail_ 9 (by kernel_rfl) ?_
   simp only [List.toList_toArray, List.drop_succ_cons, List.drop_zero]
   go_wp2_with (first
    | (go_at_call 51; (refine HI.out.mono ?_); rintro e x7 ⟨rfl, v7, hP7⟩; have HP7 := Aside0.mk hP7; clear hP7))
   have hB7 : CmpFr B gp gk w2 x7 := GV.out.2.2.2.trans HP7.out.2
   have hra7 := R_fr G2.out.2.1 hB7 G2.out.1.bp G2.out.1.bk
   have hrb7 := R_fr G2.out.2.2.1 hB7 G2.out.1.bp G2.out.1.bk
   have G7 := Aside0.mk (⟨HP7.out.1, hra7, hrb7, G2.out.2.2.2.trans hB7⟩ : _ ∧ _ ∧ _ ∧ _)
   clear hra7 hrb7 hB7 hHeld
   refine start_ (n := 10) (S := fun w' => Below x7.heap.size x7 w') (ds := [9]) #[false, false, false, false, false, false, false, false, false, false] (by kernel_rfl) rfl rfl (Below.refl _ _).drew (fun hHeld => ?_)
   refine pure_ (i := 1) (N := some 26) (v := ?_) (a' := ?_) #[false, true, false, false, false, false, false, false, false, false] rfl rfl (by kernel_rfl) (fun _ _ _ h => h) (Or.inl ⟨by rfl, ?_⟩) ?_ ?_
   rotate_left
   ·intro w'
    go_simp
    with_reducible rfl
   rotate_left
   ·simp only [Act.put, lZa, lZb, lZc, i64_w, i32_w]
    rfl
   refine pure_ (i := 2) (N := some 27) (v := ?_) (a' := ?_) #[false, true, true, false, false, false, false, false, false, false] rfl rfl (by kernel_rfl) (fun _ _ _ h => h) (Or.inl ⟨by rfl, ?_⟩) ?_ ?_
   rotate_left
   ·intro w'
    go_simp
    with_reducible rfl
   rotate_left
   ·simp only [Act.put, lZa, lZb, lZc, i64_w, i32_w]
    rfl
   refine pure_ (i := 4) (N := some 29) (v := ?_) (a' := ?_) #[false, true, true, false, true, false, false, false, false, false] rfl rfl (by kernel_rfl) (fun _ _ _ h => h) (Or.inl ⟨by rfl, ?_⟩) ?_ ?_
   rotate_left
   ·intro w'
    go_simp
    with_reducible rfl
   rotate_left
   ·simp only [Act.put, lZa, lZb, lZc, i64_w, i32_w]
    rfl
   refine pure_ (i := 5) (N := some 30) (v := ?_) (a' := ?_) #[false, true, true, false, true, true, false, false, false, false] rfl rfl (by kernel_rfl) (fun _ _ _ h => h) (Or.inl ⟨by rfl, ?_⟩) ?_ ?_
   rotate_left
   ·intro w'
    go_simp
    with_reducible rfl
   rotate_left
   ·simp only [Act.put, lZa, lZb, lZc, i64_w, i32_w]
    rfl
   refine pure_ (i := 7) (N := some 32) (v := ?_) (a' := ?_) #[false, true, true, false, true, true, false, true, false, false] rfl rfl (by kernel_rfl) (fun _ _ _ h => h) (Or.inl ⟨by rfl, ?_⟩) ?_ ?_
   rotate_left
   ·intro w'
    go_simp
    with_reducible rfl
   rotate_left
   ·simp only [Act.put, lZa, lZb, lZc, i64_w, i32_w]
    rfl
   refine pure_ (i := 8) (N := some 33) (v := ?_) (a' := ?_) #[false, true, true, false, true, true, false, true, true, false] rfl rfl (by kernel_rfl) (fun _ _ _ h => h) (Or.inl ⟨by rfl, ?_⟩) ?_ ?_
   rotate_left
   ·intro w'
    go_simp
    rw [HWR.out]
    try with_reducible rfl
   rotate_left
   ·simp only [Act.put, lZa, lZb, lZc, i64_w, i32_w]
    rfl
   refine take_ (i := 0) (N := some 25) (v := ?_) (a' := ?_) #[true, true, true, false, true, true, false, true, true, false] rfl rfl (by kernel_rfl) (fun _ _ _ h => h) (Or.inl ⟨by rfl, ?_⟩) hHeld ?_ ?_
   rotate_left
   ·intro w' hS
    have hx := (G7.out.1.below hS).bc.cell
    go_simp
    with_reducible rfl
   rotate_left
   ·simp only [Act.put, lZa, lZb, lZc, i64_w, i32_w]
    rfl
   refine one_ (i := 3) (N := some 28) #[true, true, true, true, true, true, false, true, true, false] rfl rfl (by kernel_rfl) (by decide) (fun K hK => ?_)
   refine goes_ Tryz.func54 (by kernel_rfl) rfl #[.slice Aa a.length ca, .int .i64 d, .int .i64 1] (by rfl) rfl rfl (by simp only [List.map_toArray, List.map_cons, List.map_nil]; rfl) ?_
   refine (halfm_calls a d hd1 1 Aa ca _ (Kd.C_below (R_C G7.out.2.1).2.2 hHeld) HAC.out.1 hla).mono ?_
   rw [HAB.out.2.2.1]
   rintro e x8 ⟨v3, rfl, hv3, hb3⟩
   obtain ⟨A3, c3, rfl⟩ := Kd.R_slice hv3
   refine ⟨_, rfl, ?_⟩
   refine hK.out _ _ (below_tr hHeld hb3 hHeld.size) (fun hHeld => ?_)
   clear hK K
   refine norm_ (a' := ?_) ?_ ?_
   rotate_left
   ·show Act.put _ (some 28) _ = _
    simp only [Act.put, lZa, lZb, lZc, i64_w, i32_w]
    rfl
   refine one_ (i := 6) (N := some 31) #[true, true, true, true, true, true, true, true, true, false] rfl rfl (by kernel_rfl) (by decide) (fun K hK => ?_)
   refine goes_ Tryz.func54 (by kernel_rfl) rfl #[.slice Ab b.length cb, .int .i64 d, .int .i64 1] (by rfl) rfl rfl (by simp only [List.map_toArray, List.map_cons, List.map_nil]; rfl) ?_
   refine (halfm_calls b d hd1 1 Ab cb _ (Kd.C_below (R_C G7.out.2.2.1).2.2 hHeld) HAC.out.2 hlb).mono ?_
   rw [HAB.out.2.2.2]
   rintro e x9 ⟨v4, rfl, hv4, hb4⟩
   obtain ⟨A4, c4, rfl⟩ := Kd.R_slice hv4
   refine ⟨_, rfl, ?_⟩
   refine hK.out _ _ (below_tr hHeld hb4 hHeld.size) (fun hHeld => ?_)
   clear hK K
   refine norm_ (a' := ?_) ?_ ?_
   rotate_left
   ·show Act.put _ (some 31) _ = _
    simp only [Act.put, lZa, lZb, lZc, i64_w, i32_w]
    rfl
   have hB4 : CmpFr B gp gk x7 x9 := CmpFr.of_below hHeld
   have GV := Aside0.mk (⟨Kd.R_below (Kd.R_lower hv3 (Nat.zero_le _)) hb4, Kd.R_lower hv4 (Nat.zero_le _), G7.out.1.below hHeld, hB4⟩ : _ ∧ _ ∧ _ ∧ _)
   have hI := HIH.out hd1 a1 b1 A3 A4 c3 c4 (c + 1 + r0.2) (ks ++ r0.1) v7 x9 HSM.out.2.2.1 HSM.out.2.2.2 GV.out.1 GV.out.2.1 GV.out.2.2.1 (by rw [List.length_append]; exact HSZ.out.2.2.1) HSZ.out.2.2.2
   rw [HRR.out.2, show ((d + 1 : Nat) : Int) = (d : Int) + 1 from by omega] at hI
   have HI := Aside0.mk hI
   clear hI hv3 hv4 hB4
   refine tail_ 9 (by kernel_rfl) ?_
   simp only [List.toList_toArray, List.drop_succ_cons, List.drop_zero]
   go_wp2_with (first
    | (go_at_call 51; (refine HI.out.mono ?_); rintro e x10 ⟨rfl, v10, hP7⟩; have HP10 := Aside0.mk hP7; clear hP7))
   go_end0
   refine ⟨rfl, v10, ?_, G7.out.2.2.2.trans (GV.out.2.2.2.trans HP10.out.2)⟩
   rw [HRES.out]
   show CmpSt B gp gk gc (c + (1 + r0.2 + r1.2)) (ks ++ (r0.1 ++ r1.1)) _ _
   rw [show c + (1 + r0.2 + r1.2) = c + 1 + r0.2 + r1.2 by omega, ← List.append_assoc]
   exact HP10.out.1
theorem cmp_ind (B gp gk gc : Nat) (n1 : gp ≠ gk) (n2 : gp ≠ gc) (n3 : gk ≠ gc) (l1 : gp < B) (l2 : gk < B) (l3 : gc < B) : ∀ (k d : Nat), 256 - d = k → d ≤ 256 → CmpIs B gp gk gc d (256 - d) := by
 intro k
 induction k with
 | zero => exact fun d hk hd => cmp_step B gp gk gc n1 n2 n3 l1 l2 l3 d hd (fun h => by omega)
 | succ k ih => exact fun d hk hd => cmp_step B gp gk gc n1 n2 n3 l1 l2 l3 d hd (fun h => ih (d + 1) (by omega) (by omega))
end Go.Proofs.YtanabbjakacgbaaGreatDoor.Sp

