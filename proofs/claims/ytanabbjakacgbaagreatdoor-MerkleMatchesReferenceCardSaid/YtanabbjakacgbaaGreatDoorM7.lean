/- Put together by this session's program out of: Sa Sb. -/
import Derived.Test.YtanabbjakacgbaaGreatDoorM6
namespace Go.Proofs.YtanabbjakacgbaaGreatDoor.Sp
open Go.RowKit Go.Proofs.YtanabbjakacgbaaGreatDoorW.PrintWords Go.Proofs.YtanabbjakacgbaaGreatDoorW.PrintLast Go.Proofs.YtanabbjakacgbaaGreatDoorW.PrintMore Go.Proofs.YtanabbjakacgbaaGreatDoor.PM
set_option linter.unusedVariables false
set_option linter.unusedSimpArgs false
set_option maxRecDepth 100000
set_option maxHeartbeats 400000 in
theorem Index_calls (l : List It) (x : It) (A : Option Addr) (c : Nat) (w : World) (hr : kI.C w A l.length l) (hc : l.length ≤ c) (hl : l.length ≤ 1000000) :
  Calls Tryz.prog 75 #[.slice A l.length c, .agg (cI x)] w fun e w' => ∃ i : Int, e = .returned (.int .i64 i) ∧ (0 ≤ i ↔ x ∈ l) ∧ Below w.heap.size w w' := by
 have HS := Aside0.mk hr
 clear hr
 go_enter Tryz.func75, Tryz.ntmps75
 go_wp2
 have H0 : Aside0 (Below w.heap.size w (w.alloc (.cells (cI x) 77)) ∧ (w.alloc (.cells (cI x) 77)).heap[w.heap.size]? = some (.cells (cI x) 77 (0, 0))) := ⟨⟨below_alloc (Below.refl _ _) _, h_new rfl⟩⟩
 go_loopw [8, 5] (fun i v5 wr => ∃ n : Nat, i = .int .i64 (n : Int) ∧ n ≤ l.length ∧ Aside0 (∀ y ∈ l.take n, y ≠ x) ∧ Aside0 (Below w.heap.size w wr ∧ wr.heap[w.heap.size]? = some (.cells (cI x) 77 (0, 0)))) (fun i _ _ => l.length - (intOf i).toNat)
 case atStart => exact ⟨0, rfl, by omega, ⟨by simp⟩, H0⟩
 case round =>
  clear H0
  obtain ⟨n, rfl, hn, HN, HR⟩ := hrel
  by_cases c5 : n < l.length
  ·have c5b : (n : Int) < (l.length : Int) := by omega
   obtain ⟨y, hy⟩ : ∃ y, y = l.getD n zI := ⟨_, rfl⟩
   obtain ⟨ad, eA, hat⟩ := at_flat HS.out zI (n : Int) (by omega) c5b
   subst eA
   rw [show ((n : Int).toNat) = n by omega, ← hy] at hat
   have c5c := eq_true c5b
   have c5d : ((0 : Int) ≤ (n : Int)) = True := eq_true (by omega)
   have hl1 := le_I hat HR.out.1
   have hl2 := ld_I HR.out.2
   clear hat
   have HY := Aside0.mk hy
   clear hy
   go_wp2
   refine wp_region_quiet_lit (by kernel_rfl) (by kernel_rfl) ?_
   repeat (first
    | (refine wpQuiet_load (fun _ h => h) rfl _ _ rfl _ rfl _ (by first | exact hl2 | exact hl1) _ rfl ?_; simp only [Act.put, lZa, lZb, lZc])
    | (refine wpQuiet_eql rfl _ _ _ _ rfl _ _ rfl rfl gt_L _ (fun w => eqL w _ _) _ rfl ?_; simp only [Act.put, lZa, lZb, lZc])
    | (refine wpQuiet_neq rfl _ _ _ _ rfl _ _ rfl rfl gt_L _ (fun w => eqL w _ _) _ rfl ?_; simp only [Act.put, lZa, lZb, lZc])
    | (refine wpQuiet_eql rfl _ _ _ _ rfl _ _ rfl rfl gt_S _ (fun w => eqS w _ _) _ rfl ?_; simp only [Act.put, lZa, lZb, lZc])
    | (refine wpQuiet_neq rfl _ _ _ _ rfl _ _ rfl rfl gt_S _ (fun w => eqS w _ _) _ rfl ?_; simp only [Act.put, lZa, lZb, lZc])
    | (refine wpQuiet_eql rfl _ _ _ _ rfl _ _ rfl rfl gt_I _ (fun w => eqI w _ _) _ rfl ?_; simp only [Act.put, lZa, lZb, lZc])
    | (refine wpQuiet_neq rfl _ _ _ _ rfl _ _ rfl rfl gt_I _ (fun w => eqI w _ _) _ rfl ?_; simp only [Act.put, lZa, lZb, lZc])
    | (refine wpQuiet_field rfl _ _ _ rfl _ rfl _ (fun w => by first | exact fld_L0 w _ | exact fld_L1 w _ | exact fld_I0 w _ | exact fld_I1 w _ | exact fld_J0 w _ | exact fld_J1 w _) _ rfl ?_; simp only [Act.put, lZa, lZb, lZc])
    | (go_big_quiet_step (fail)))
   refine wpQuiet_nil ?_
   rintro _ ⟨nq, rfl⟩
   by_cases hyx : x = y
   ·go_wp2
    go_ret
    exact ⟨_, rfl, ⟨fun _ => by rw [hyx, HY.out]; exact getD_mem' c5, fun _ => by simp⟩, below_drewN HR.out.1 _⟩
   ·go_wp2
    refine ⟨⟨n + 1, by simp, by omega, ⟨?_⟩, ⟨below_drewN HR.out.1 _, HR.out.2⟩⟩, by simp [intOf]; omega⟩
    intro z hz
    rcases (mem_take_succ (z := zI) c5).1 hz with h | h
    ·exact HN.out z h
    ·rw [h, ← HY.out]; exact Ne.symm hyx
  ·obtain rfl : n = l.length := by omega
   have c5b : ¬ ((l.length : Int) < (l.length : Int)) := by omega
   have hx : x ∉ l := fun h => HN.out x (by rw [List.take_length]; exact h) rfl
   go_wp2
   go_ret
   exact ⟨-1, rfl, by decide, HR.out.1⟩
theorem Contains_calls (l : List It) (x : It) (A : Option Addr) (c : Nat) (w : World) (hr : kI.C w A l.length l) (hc : l.length ≤ c) (hl : l.length ≤ 1000000) :
  Calls Tryz.prog 53 #[.slice A l.length c, .agg (cI x)] w fun e w' => e = .returned (.bool (decide (x ∈ l))) ∧ Below w.heap.size w w' := by
 obtain ⟨wb, hwb⟩ : ∃ wb, w.alloc (.cells (cI x) 77) = wb := ⟨_, rfl⟩
 have hb : Below w.heap.size w wb := by rw [← hwb]; exact below_alloc (Below.refl _ _) _
 have h0 : wb.heap[w.heap.size]? = some (.cells (cI x) 77 (0, 0)) := by rw [← hwb]; exact h_new rfl
 have HB := Aside0.mk (⟨hb, Kd.C_below hr hb, hwb⟩ : _ ∧ _ ∧ _)
 have hl2 : (loadVar 77 ⟨w.heap.size, 0, none⟩).run Tryz.prog wb = .ok (.agg (cI x)) wb := ld_I h0 0
 clear hb hr hwb h0
 go_enter Tryz.func53, Tryz.ntmps53
 go_wp2_with (first
  | ((with_reducible refine gate_dst (N := 6) rfl ?_); (refine at_world (w' := wb) HB.out.2.2 ?_); refine wpList_loadv rfl _ _ rfl _ rfl _ hl2 ?_)
  | (go_at_call 75; (refine (Index_calls l x A c wb HB.out.2.1 hc hl).mono ?_); rintro e w1 ⟨i, rfl, hi, hb1⟩; have H1 := Aside0.mk (And.intro hi (below_tr HB.out.1 hb1 HB.out.1.size)); clear hi hb1))
 go_ret
 refine ⟨?_, H1.out.2⟩
 have h := H1.out.1
 by_cases hx : x ∈ l
 ·have := h.2 hx
  simp [hx, this]
 ·have : ¬ 0 ≤ i := fun h' => hx (h.1 h')
  simp [hx, this]
end Go.Proofs.YtanabbjakacgbaaGreatDoor.Sp
namespace Go.Proofs.YtanabbjakacgbaaGreatDoor.Sp
open Go.RowKit Go.Proofs.YtanabbjakacgbaaGreatDoorW.PrintWords Go.Proofs.YtanabbjakacgbaaGreatDoorW.PrintLast Go.Proofs.YtanabbjakacgbaaGreatDoorW.PrintMore Go.Proofs.YtanabbjakacgbaaGreatDoor.PM
set_option linter.unusedVariables false
set_option linter.unusedSimpArgs false
set_option maxRecDepth 100000
def onlyK (a b : List It) : List ByteArray := (a.filter fun x => decide (x ∉ b)).map fun x => x.x.k
theorem onlyK_succ {a : List It} {n : Nat} (hn : n < a.length) (b : List It) : onlyK (a.take (n + 1)) b = onlyK (a.take n) b ++ if a.getD n zI ∈ b then [] else [(a.getD n zI).x.k] := by
 rw [onlyK, take_succ' zI hn, List.filter_append, List.map_append]
 congr 1
 generalize a.getD n zI = z
 by_cases h : z ∈ b <;> simp [h]
theorem onlyK_len (a b : List It) : (onlyK a b).length ≤ a.length := by rw [onlyK, List.length_map]; exact List.length_filter_le _ _
def cmpF : Nat → List It → List It → Nat → List ByteArray × Nat
 | 0, a, b, d => if hashOf a d = hashOf b d then ([], 1) else (onlyK a b ++ onlyK b a, 1)
 | k + 1, a, b, d => if hashOf a d = hashOf b d then ([], 1) else if endsOf a d = true ∨ endsOf b d = true then (onlyK a b ++ onlyK b a, 1) else
   ((cmpF k (halfOf a d 0) (halfOf b d 0) (d + 1)).1 ++ (cmpF k (halfOf a d 1) (halfOf b d 1) (d + 1)).1, 1 + (cmpF k (halfOf a d 0) (halfOf b d 0) (d + 1)).2 + (cmpF k (halfOf a d 1) (halfOf b d 1) (d + 1)).2)
theorem half_sum (a : List It) (d : Nat) : (halfOf a d 0).length + (halfOf a d 1).length = a.length := by
 induction a with
 | nil => rfl
 | cons x a ih =>
  have h : halfOf (x :: a) d 0 = (if bitI x.s d = 0 then [x] else []) ++ halfOf a d 0 := by rw [halfOf, List.filter_cons]; by_cases h : bitI x.s d = 0 <;> simp [h, halfOf]
  have h2 : halfOf (x :: a) d 1 = (if bitI x.s d = 1 then [x] else []) ++ halfOf a d 1 := by rw [halfOf, List.filter_cons]; by_cases h : bitI x.s d = 1 <;> simp [h, halfOf]
  rw [h, h2, List.length_append, List.length_append, List.length_cons]
  rcases bitI_01 x.s d with e | e <;> rw [e] <;> simp <;> omega
theorem cmpF_end {k d : Nat} {a b : List It} (he : endsOf a d = true ∨ endsOf b d = true) (hh : ¬ hashOf a d = hashOf b d) : cmpF k a b d = (onlyK a b ++ onlyK b a, 1) := by
 cases k with
 | zero => rw [cmpF, if_neg hh]
 | succ k => rw [cmpF, if_neg hh, if_pos he]
theorem cmpF_same {k d : Nat} {a b : List It} (hh : hashOf a d = hashOf b d) : cmpF k a b d = ([], 1) := by
 cases k with
 | zero => rw [cmpF, if_pos hh]
 | succ k => rw [cmpF, if_pos hh]
theorem cmpF_go {d : Nat} {a b : List It} (hh : ¬ hashOf a d = hashOf b d) (h1 : endsOf a d = false) (h2 : endsOf b d = false) : cmpF (256 - d) a b d =
   ((cmpF (256 - (d + 1)) (halfOf a d 0) (halfOf b d 0) (d + 1)).1 ++ (cmpF (256 - (d + 1)) (halfOf a d 1) (halfOf b d 1) (d + 1)).1, 1 + (cmpF (256 - (d + 1)) (halfOf a d 0) (halfOf b d 0) (d + 1)).2 + (cmpF (256 - (d + 1)) (halfOf a d 1) (halfOf b d 1) (d + 1)).2) := by
 have hd := (ends_lt h1).1
 rw [show 256 - d = (256 - (d + 1)) + 1 by omega, cmpF, if_neg hh, if_neg (by rw [h1, h2]; simp)]
theorem cmpF_bounds : ∀ (k : Nat) (a b : List It) (d : Nat), (cmpF k a b d).1.length ≤ a.length + b.length ∧ (cmpF k a b d).2 ≤ 1 + 2 * k * a.length
 | 0, a, b, d => by
  rw [cmpF]
  have h1 := onlyK_len a b
  have h2 := onlyK_len b a
  split
  ·simp
  ·simp; omega
 | k + 1, a, b, d => by
  rw [cmpF]
  have h1 := onlyK_len a b
  have h2 := onlyK_len b a
  split
  ·simp
  ·split
   ·simp; omega
   ·rename_i hne hen
    have i0 := cmpF_bounds k (halfOf a d 0) (halfOf b d 0) (d + 1)
    have i1 := cmpF_bounds k (halfOf a d 1) (halfOf b d 1) (d + 1)
    have sa := half_sum a d
    have sb := half_sum b d
    have ha : 1 ≤ a.length := by
     rcases Nat.lt_or_ge 1 a.length with h | h
     ·omega
     ·exact absurd (Or.inl (by simp [endsOf, h])) hen
    refine ⟨by simp only [List.length_append]; omega, ?_⟩
    simp only
    have e : 2 * (k + 1) * a.length = 2 * k * (halfOf a d 0).length + 2 * k * (halfOf a d 1).length + 2 * a.length := by
     rw [← sa, Nat.mul_add 2 k 1, Nat.add_mul, Nat.mul_add (2 * k)]
    omega
structure CmpFr (B gp gk : Nat) (w w' : World) : Prop where
 os : w'.os = w.os
 tape : w'.tape = w.tape
 output : w'.output = w.output
 size : w.heap.size ≤ w'.heap.size
 same : ∀ (k : Nat) (o : Obj), w.heap[k]? = some o → k ≠ gp → k ≠ gk → (k < B ∨ ∀ cells fr, o ≠ Obj.cells cells 9 fr) → w'.heap[k]? = some o
section
variable {B gp gk : Nat} {w w1 w2 : World}
theorem CmpFr.refl (B gp gk : Nat) (w : World) : CmpFr B gp gk w w := ⟨rfl, rfl, rfl, Nat.le_refl _, fun _ _ h _ _ _ => h⟩
theorem CmpFr.trans (h : CmpFr B gp gk w w1) (h2 : CmpFr B gp gk w1 w2) : CmpFr B gp gk w w2 :=
 ⟨h2.os.trans h.os, h2.tape.trans h.tape, h2.output.trans h.output, Nat.le_trans h.size h2.size, fun k o hk h3 h4 h5 => h2.same k o (h.same k o hk h3 h4 h5) h3 h4 h5⟩
theorem CmpFr.of_below (h : Below w.heap.size w w1) : CmpFr B gp gk w w1 := ⟨h.os, h.tape, h.output, h.size, fun k o hk _ _ _ => (h.block k (Array.getElem?_eq_some_iff.1 hk).1).trans hk⟩
theorem CmpFr.setp (u : Value) : CmpFr B gp gk w (w.setCell ⟨gp, 0, none⟩ u) := ⟨rfl, rfl, rfl, by rw [Rng.size_setCell]; exact Nat.le_refl _, fun k o hk h1 _ _ => (heap_setCell_ne h1).trans hk⟩
theorem CmpFr.setk (u : Value) : CmpFr B gp gk w (w.setCell ⟨gk, 0, none⟩ u) := ⟨rfl, rfl, rfl, by rw [Rng.size_setCell]; exact Nat.le_refl _, fun k o hk _ h1 _ => (heap_setCell_ne h1).trans hk⟩
theorem CmpFr.app {v : Value} {ks : List ByteArray} (hr : Kd.string.R 9 w B (fun _ => True) v ks) (h : w.grownBy w1 v.ownBlock) : CmpFr B gp gk w w1 :=
 ⟨h.os, h.tape, h.output, h.size, fun k o hk _ _ h3 => (h.block k (Array.getElem?_eq_some_iff.1 hk).1 (fun e => by
  obtain ⟨_, hb, _, q, hq, cells, hc⟩ := (Kd.R_bound hr).1 k e.symm
  rw [hc] at hk
  obtain rfl := Option.some.inj hk
  have hq9 : q = 9 := by simpa [Kd.string, Kd.scalar] using hq
  subst hq9
  rcases h3 with h3 | h3
  ·omega
  ·exact h3 _ _ rfl)).trans hk⟩
end
structure CmpSt (B gp gk gc : Nat) (c : Nat) (ks : List ByteArray) (v : Value) (w : World) : Prop where
 bp : Boxed w gp 3 (.int .i64 (c : Int))
 bk : Boxed w gk 36 v
 bc : Boxed w gc 101 (.func (.func 51) #[] #[.pointer (some ⟨gp, 0, none⟩), .pointer (some ⟨gk, 0, none⟩), .pointer (some ⟨gc, 0, none⟩)])
 row : Kd.string.R 9 w B (fun _ => True) v ks
 words : Words w
 size : B ≤ w.heap.size
theorem CmpSt.below {B gp gk gc c : Nat} {ks : List ByteArray} {v : Value} {w w1 : World} (h : CmpSt B gp gk gc c ks v w) (hb : Below w.heap.size w w1) : CmpSt B gp gk gc c ks v w1 :=
 ⟨(hb.block _ h.bp.lt).trans h.bp, (hb.block _ h.bk.lt).trans h.bk, (hb.block _ h.bc.lt).trans h.bc, Kd.R_below h.row hb, h.words.below hb, Nat.le_trans h.size hb.size⟩
theorem R_fr {B gp gk b : Nat} {w w1 : World} {v vp vk : Value} {xs : List It} (h : kI.R 77 w b (fun _ => True) v xs) (hf : CmpFr B gp gk w w1) (hp : Boxed w gp 3 vp) (hk : Boxed w gk 36 vk) : kI.R 77 w1 b (fun _ => True) v xs :=
 R_kept h rfl (fun k o ho hc => by
  obtain ⟨cells, fr, rfl⟩ := hc
  refine hf.same k _ ho ?_ ?_ (.inr ?_)
  ·rintro rfl
   rw [show w.heap[k]? = _ from hp] at ho
   injection ho with ho; injection ho with _ ho _; exact absurd ho (by decide)
  ·rintro rfl
   rw [show w.heap[k]? = _ from hk] at ho
   injection ho with ho; injection ho with _ ho _; exact absurd ho (by decide)
  ·intro cells' fr' e
   injection e with _ e _; exact absurd e (by decide))
end Go.Proofs.YtanabbjakacgbaaGreatDoor.Sp

