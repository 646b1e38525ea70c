/- Put together by this session's program out of: Rf1 Rf2 Eq0 Eq1 Eq2 PMx0 PMx1. -/
import Derived.ArgAppend
import Derived.Below
import Derived.BigQuiet
import Derived.BigRegion
import Derived.Deep.AppendLies
import Derived.Deep.CutBlock
import Derived.Deep.DeepCutAuto
import Derived.Deep.Draws
import Derived.Deep.LoopGhost
import Derived.Deep.OwnRows
import Derived.Deep.QuietTactic
import Derived.Deep.RegionHeld3
import Derived.KernelRfl
import Derived.Laws.BitsLemmas
import Derived.Laws.BytesArg
import Derived.Laws.CopyOwn
import Derived.Laws.IdiomCopy
import Derived.Laws.MakeOwn
import Derived.Laws.OwnMore
import Derived.Laws.Rows
import Derived.Laws.Slices
import Derived.Lib.AppendStr
import Derived.Lib.ConvBytes
import Derived.Maps.AppendAt
import Derived.OrdersHeld
import Derived.OwnWalk
import Derived.RangeFuncBox
import Derived.RegionIn
import Derived.RowKit
import Derived.RowKit3
import Derived.Shelf.Abstract
import Derived.StillTailTactics
import Derived.Tactics
import Derived.WalkKit
import Derived.WideLaws
import Derived.Test.YtanabbjakacgbaaGreatDoorM0
import Derived.Test.YtanabbjakacgbaaGreatDoorProg
import Derived.Test.YtanabbjakacgbaaGreatDoorV0
namespace Go.Proofs.YtanabbjakacgbaaGreatDoor.Sp
open Go.RowKit Go.Proofs.YtanabbjakacgbaaGreatDoorW.PrintWords Go.Proofs.YtanabbjakacgbaaGreatDoorW.PrintLast Go.Proofs.YtanabbjakacgbaaGreatDoorW.PrintMore
set_option linter.unusedVariables false
set_option linter.unusedSimpArgs false
def rc (a : List W) : Nat → List W
 | 0 => List.replicate 5 0
 | i + 1 => (rc a i).set i (a.getD (i * 5) 0 ^^^ a.getD (i * 5 + 1) 0 ^^^ a.getD (i * 5 + 2) 0 ^^^ a.getD (i * 5 + 3) 0 ^^^ a.getD (i * 5 + 4) 0)
def rdi (a : List W) (x : Nat) (d : W) : Nat → List W
 | 0 => a
 | y + 1 => (rdi a x d y).set (x * 5 + y) ((rdi a x d y).getD (x * 5 + y) 0 ^^^ d)
def rda (a c : List W) : Nat → List W
 | 0 => a
 | x + 1 => rdi (rda a c x) x (c.getD ((x + 4) % 5) 0 ^^^ rotl (c.getD ((x + 1) % 5) 0) 1) 5
def rt (a : List W) : Nat → Nat × Nat × List W
 | 0 => (1, 0, a)
 | t + 1 => ((rt a t).2.1, (2 * (rt a t).1 + 3 * (rt a t).2.1) % 5, (rt a t).2.2.set ((rt a t).1 * 5 + (rt a t).2.1) (rotl ((rt a t).2.2.getD ((rt a t).1 * 5 + (rt a t).2.1) 0) ((t + 1) * (t + 2) / 2 % 64)))
def rbi (a b : List W) (i : Nat) : Nat → List W
 | 0 => b
 | j + 1 => (rbi a b i j).set (j * 5 + (2 * i + 3 * j) % 5) (a.getD (i * 5 + j) 0)
def rb (a : List W) : Nat → List W
 | 0 => List.replicate 25 0
 | i + 1 => rbi a (rb a i) i 5
def rxi (b a : List W) (i : Nat) : Nat → List W
 | 0 => a
 | j + 1 => (rxi b a i j).set (i * 5 + j) (b.getD (i * 5 + j) 0 ^^^ (~~~ b.getD ((i + 1) % 5 * 5 + j) 0 &&& b.getD ((i + 2) % 5 * 5 + j) 0))
def rx (b a : List W) : Nat → List W
 | 0 => a
 | i + 1 => rxi b (rx b a i) i 5
def theta (a : List W) : List W := rda a (rc a 5) 5
def rho (a : List W) : List W := (rt a 24).2.2
def chi (a : List W) : List W := rx (rb a 5) a 5
def round3 (a : List W) (k : W) : List W := (chi (rho (theta a))).set 0 ((chi (rho (theta a))).getD 0 0 ^^^ k)
theorem rbi_0 (a b : List W) (i : Nat) : rbi a b i 0 = b := by rw [rbi]
theorem rbi_s (a b : List W) (i j : Nat) : rbi a b i (j + 1) = (rbi a b i j).set (j * 5 + (2 * i + 3 * j) % 5) (a.getD (i * 5 + j) 0) := by rw [rbi]
theorem rb_s (a : List W) (i : Nat) : rb a (i + 1) = rbi a (rb a i) i 5 := by rw [rb]
theorem rxi_0 (b a : List W) (i : Nat) : rxi b a i 0 = a := by rw [rxi]
theorem rxi_s (b a : List W) (i j : Nat) : rxi b a i (j + 1) = (rxi b a i j).set (i * 5 + j) (b.getD (i * 5 + j) 0 ^^^ (~~~ b.getD ((i + 1) % 5 * 5 + j) 0 &&& b.getD ((i + 2) % 5 * 5 + j) 0)) := by rw [rxi]
theorem rx_0 (b a : List W) : rx b a 0 = a := by rw [rx]
theorem rx_s (b a : List W) (i : Nat) : rx b a (i + 1) = rxi b (rx b a i) i 5 := by rw [rx]
theorem rc_len (a : List W) : ∀ i, (rc a i).length = 5
 | 0 => by simp [rc]
 | i + 1 => by simp [rc, rc_len a i]
theorem rdi_len (a : List W) (x : Nat) (d : W) : ∀ i, (rdi a x d i).length = a.length
 | 0 => rfl
 | i + 1 => by simp [rdi, rdi_len a x d i]
theorem rda_len (a c : List W) : ∀ i, (rda a c i).length = a.length
 | 0 => rfl
 | i + 1 => by simp [rda, rdi_len, rda_len a c i]
theorem rt_len (a : List W) : ∀ i, (rt a i).2.2.length = a.length
 | 0 => rfl
 | i + 1 => by simp [rt, rt_len a i]
theorem rt_0 (a : List W) : (rt a 0).2.2 = a := by simp only [rt]
theorem rt_lt (a : List W) : ∀ i, (rt a i).1 < 5 ∧ (rt a i).2.1 < 5
 | 0 => ⟨by simp [rt], by simp [rt]⟩
 | i + 1 => by simp only [rt]; exact ⟨(rt_lt a i).2, Nat.mod_lt _ (by decide)⟩
theorem rbi_len (a b : List W) (i : Nat) : ∀ j, (rbi a b i j).length = b.length
 | 0 => rfl
 | j + 1 => by simp [rbi, rbi_len a b i j]
theorem rb_len (a : List W) : ∀ i, (rb a i).length = 25
 | 0 => by simp [rb]
 | i + 1 => by simp [rb, rbi_len, rb_len a i]
theorem rxi_len (b a : List W) (i : Nat) : ∀ j, (rxi b a i j).length = a.length
 | 0 => rfl
 | j + 1 => by simp [rxi, rxi_len b a i j]
theorem rx_len (b a : List W) : ∀ i, (rx b a i).length = a.length
 | 0 => rfl
 | i + 1 => by simp [rx, rxi_len, rx_len b a i]
structure Q1 (w : World) (A C : List W) (wr : World) : Prop where
 sz : wr.heap.size = w.heap.size + 3
 h0 : wr.heap[w.heap.size]? = some (.cells (enc A) 94 (0, 0))
 h1 : wr.heap[w.heap.size + 1]? = some (.cells (enc (List.replicate 25 0)) 94 (0, 0))
 h2 : wr.heap[w.heap.size + 2]? = some (.cells (enc C) 93 (0, 0))
 hb : Below w.heap.size w wr
theorem Q1.drewN {w wr : World} {A C : List W} (h : Q1 w A C wr) (n : Nat) : Q1 w A C (wr.drewN n) := ⟨h.sz, h.h0, h.h1, h.h2, pw_below_drewN h.hb n⟩
theorem Q1.drew {w wr : World} {A C : List W} (h : Q1 w A C wr) : Q1 w A C wr.drew := ⟨h.sz, h.h0, h.h1, h.h2, below_drew h.hb⟩
theorem Q1.setA {w wr : World} {A C : List W} (h : Q1 w A C wr) (i : Nat) (x : W) : Q1 w (A.set i x) C (wr.setCell ⟨w.heap.size, i, none⟩ (U x)) :=
 ⟨(size_sc _ _ _).trans h.sz, heap_set_enc x h.h0, (heap_setCell_other _ _ _ _ (by show _ ≠ w.heap.size; omega)).trans h.h1, (heap_setCell_other _ _ _ _ (by show _ ≠ w.heap.size; omega)).trans h.h2, below_set h.hb (Nat.le_refl _)⟩
theorem Q1.setC {w wr : World} {A C : List W} (h : Q1 w A C wr) (i : Nat) (x : W) : Q1 w A (C.set i x) (wr.setCell ⟨w.heap.size + 2, i, none⟩ (U x)) :=
 ⟨(size_sc _ _ _).trans h.sz, (heap_setCell_other _ _ _ _ (by show _ ≠ w.heap.size + 2; omega)).trans h.h0, (heap_setCell_other _ _ _ _ (by show _ ≠ w.heap.size + 2; omega)).trans h.h1, heap_set_enc x h.h2, below_set h.hb (by omega)⟩
structure Q2 (w : World) (A B : List W) (wr : World) : Prop where
 h0 : wr.heap[w.heap.size]? = some (.cells (enc A) 94 (0, 0))
 h1 : wr.heap[w.heap.size + 1]? = some (.cells (enc (List.replicate 25 0)) 94 (0, 0))
 h3 : wr.heap[w.heap.size + 3]? = some (.cells (enc B) 94 (0, 0))
 hb : Below w.heap.size w wr
theorem Q2.drew {w wr : World} {A B : List W} (h : Q2 w A B wr) : Q2 w A B wr.drew := ⟨h.h0, h.h1, h.h3, below_drew h.hb⟩
theorem Q2.setA {w wr : World} {A B : List W} (h : Q2 w A B wr) (i : Nat) (x : W) : Q2 w (A.set i x) B (wr.setCell ⟨w.heap.size, i, none⟩ (U x)) :=
 ⟨heap_set_enc x h.h0, (heap_setCell_other _ _ _ _ (by show _ ≠ w.heap.size; omega)).trans h.h1, (heap_setCell_other _ _ _ _ (by show _ ≠ w.heap.size; omega)).trans h.h3, below_set h.hb (Nat.le_refl _)⟩
theorem Q2.setB {w wr : World} {A B : List W} (h : Q2 w A B wr) (i : Nat) (x : W) : Q2 w A (B.set i x) (wr.setCell ⟨w.heap.size + 3, i, none⟩ (U x)) :=
 ⟨(heap_setCell_other _ _ _ _ (by show _ ≠ w.heap.size + 3; omega)).trans h.h0, (heap_setCell_other _ _ _ _ (by show _ ≠ w.heap.size + 3; omega)).trans h.h1, heap_set_enc x h.h3, below_set h.hb (by omega)⟩
theorem built25 : Tryz.prog.built 94 [] = some (enc (List.replicate 25 0)) := by kernel_rfl
theorem built5 : Tryz.prog.built 93 [] = some (enc (List.replicate 5 0)) := by kernel_rfl
set_option maxHeartbeats 4000000 in
set_option maxRecDepth 100000 in
theorem round3_calls (a : List W) (k : W) (ha : a.length = 25) (w : World) :
  Calls Tryz.prog 48 #[.agg (enc a), U k] w fun e w' => e = .returned (.agg (enc (round3 a k))) ∧ Below w.heap.size w w' := by
 have hu3 := Tryz.underlying3
 have hu115 := Tryz.underlying92
 have hu116 := Tryz.underlying93
 have hu117 := Tryz.underlying94
 go_enter Tryz.func48, Tryz.ntmps48
 go_wp2_with (first
  | ((with_reducible refine gate_dst (N := 18) rfl ?_); go_loud (refine wpList_built0 rfl 93 rfl (enc (List.replicate 5 0)) built5 ?_))
  | ((with_reducible refine gate_store (t := 93) rfl ?_); go_loud (refine wpList_store_row rfl 93 (.tmp 5) (.tmp 18) rfl (w.heap.size + 2) (enc (List.replicate 5 0)) rfl rfl 93 (enc (List.replicate 5 0)) (h_new (by simp)) (by rw [enc_size]; kernel_rfl) rfl (enc_one _) ?_)))
 go_loopw [6] (fun i wr => ∃ x : Nat, i = .int .i64 (x : Int) ∧ x ≤ 5 ∧ Aside0 (Q1 w a (rc a x) wr)) (fun i _ => 5 - (intOf i).toNat)
 case atStart =>
  refine ⟨0, rfl, by omega, ⟨⟨by simp, ?_, ?_, ?_, ?_⟩⟩⟩
  ·exact (setRow_other _ _ _ _ (by omega)).trans ((h_old (by simp only [World.size_alloc]; omega)).trans ((h_old (by simp only [World.size_alloc]; omega)).trans (h_new rfl)))
  ·exact (setRow_other _ _ _ _ (by omega)).trans ((h_old (by simp only [World.size_alloc]; omega)).trans (h_new (by simp)))
  ·exact setRow_heap _ _ _ _ _ _ (h_new (by simp))
  ·exact below_setRow (below_alloc (below_alloc (below_alloc (Below.refl _ _) _) _) _) (by omega)
 case round =>
  obtain ⟨x, rfl, hx1, HR⟩ := hrel
  by_cases c4 : x < 5
  ·have c4b : (x : Int) < 5 := by omega
   have c4c := eq_true c4b
   go_wp2
   refine region_qtail 26 (by kernel_rfl) (by kernel_rfl) (fun wd hwd => ?_)
   simp only [List.take_succ_cons, List.take_zero, List.drop_succ_cons, List.drop_zero]
   have HR2 : Aside0 (Q1 w a (rc a x) wd) := ⟨by rw [hwd]; exact HR.out.drew⟩
   clear HR hwd
   obtain ⟨p0, hp0⟩ : ∃ p, p = a.getD (x * 5) 0 := ⟨_, rfl⟩
   obtain ⟨p1, hp1⟩ : ∃ p, p = a.getD (x * 5 + 1) 0 := ⟨_, rfl⟩
   obtain ⟨p2, hp2⟩ : ∃ p, p = a.getD (x * 5 + 2) 0 := ⟨_, rfl⟩
   obtain ⟨p3, hp3⟩ : ∃ p, p = a.getD (x * 5 + 3) 0 := ⟨_, rfl⟩
   obtain ⟨p4, hp4⟩ : ∃ p, p = a.getD (x * 5 + 4) 0 := ⟨_, rfl⟩
   have hA0 := cell_enc (i := x * 5) HR2.out.h0 (by omega)
   have hA1 := cell_enc (i := x * 5 + 1) HR2.out.h0 (by omega)
   have hA2 := cell_enc (i := x * 5 + 2) HR2.out.h0 (by omega)
   have hA3 := cell_enc (i := x * 5 + 3) HR2.out.h0 (by omega)
   have hA4 := cell_enc (i := x * 5 + 4) HR2.out.h0 (by omega)
   rw [← hp0] at hA0
   rw [← hp1] at hA1
   rw [← hp2] at hA2
   rw [← hp3] at hA3
   rw [← hp4] at hA4
   obtain ⟨v1, hv1⟩ : ∃ v, v = p0 ^^^ p1 := ⟨_, rfl⟩
   obtain ⟨v2, hv2⟩ : ∃ v, v = v1 ^^^ p2 := ⟨_, rfl⟩
   obtain ⟨v3, hv3⟩ : ∃ v, v = v2 ^^^ p3 := ⟨_, rfl⟩
   obtain ⟨v4, hv4⟩ : ∃ v, v = v3 ^^^ p4 := ⟨_, rfl⟩
   have K1 : bits .xor .u64 (p0.toNat : Int) (p1.toNat : Int) = (v1.toNat : Int) := by rw [bits_x, hv1]
   have K2 : bits .xor .u64 (v1.toNat : Int) (p2.toNat : Int) = (v2.toNat : Int) := by rw [bits_x, hv2]
   have K3 : bits .xor .u64 (v2.toNat : Int) (p3.toNat : Int) = (v3.toNat : Int) := by rw [bits_x, hv3]
   have K4 : bits .xor .u64 (v3.toNat : Int) (p4.toNat : Int) = (v4.toNat : Int) := by rw [bits_x, hv4]
   have hc0 := cell_enc (i := x) HR2.out.h2 (by rw [rc_len]; exact c4)
   have hf0 := frozen_of_row wd (w.heap.size + 2) x _ 93 HR2.out.h2
   have HQ := Aside0.mk (by rw [hv4, hv3, hv2, hv1, hp0, hp1, hp2, hp3, hp4]; rfl : rc a (x + 1) = (rc a x).set x v4)
   clear hp0 hp1 hp2 hp3 hp4 hv1 hv2 hv3 hv4
   repeat (go_big_quiet_step (fail))
   refine wpQuiet_nil ?_
   go_wp2
   refine ⟨⟨x + 1, by simp, by omega, ⟨?_⟩⟩, by simp [intOf]; omega⟩
   rw [HQ.out]
   exact HR2.out.setC x v4
  ·obtain rfl : x = 5 := by omega
   clear c4 hx1
   obtain ⟨C, hC⟩ : ∃ C, C = rc a 5 := ⟨_, rfl⟩
   have hCl : C.length = 5 := by rw [hC, rc_len]
   have HI : Aside0 (Q1 w (rda a C 0) C wr) := ⟨by rw [hC]; exact HR.out⟩
   have HC := Aside0.mk hC
   clear HR hC
   go_wp2
   go_loopw [7] (fun i wr => ∃ x : Nat, i = .int .i64 (x : Int) ∧ x ≤ 5 ∧ Aside0 (Q1 w (rda a C x) C wr)) (fun i _ => 5 - (intOf i).toNat)
   case atStart => exact ⟨0, rfl, by omega, HI⟩
   case round =>
    clear HI
    obtain ⟨x, rfl, hx1, HR⟩ := hrel
    by_cases c4 : x < 5
    ·have c4b : (x : Int) < 5 := by omega
     have c4c := eq_true c4b
     obtain ⟨A, hA⟩ : ∃ A, A = rda a C x := ⟨_, rfl⟩
     have hAl : A.length = 25 := by rw [hA, rda_len, ha]
     have HR2 : Aside0 (Q1 w A C wr) := ⟨by rw [hA]; exact HR.out⟩
     obtain ⟨e4, he4⟩ : ∃ n, n = (x + 4) % 5 := ⟨_, rfl⟩
     obtain ⟨e1, he1⟩ : ∃ n, n = (x + 1) % 5 := ⟨_, rfl⟩
     obtain ⟨p, hp⟩ : ∃ p, p = C.getD e4 0 := ⟨_, rfl⟩
     obtain ⟨r, hr⟩ : ∃ p, p = C.getD e1 0 := ⟨_, rfl⟩
     obtain ⟨d, hd⟩ : ∃ d, d = p ^^^ rotl r 1 := ⟨_, rfl⟩
     have K1 : ((x : Int) + 4) % 5 = e4 := by omega
     have K2 : ((x : Int) + 1) % 5 = e1 := by omega
     have k1 : (e4 : Int) < 5 := by omega
     have k2 : (e1 : Int) < 5 := by omega
     have K3 : bits .xor .u64 (p.toNat : Int) ((rotl r 1).toNat : Int) = (d.toNat : Int) := by rw [bits_x, hd]
     have hca := cell_enc (i := e4) HR2.out.h2 (by omega)
     have hcb := cell_enc (i := e1) HR2.out.h2 (by omega)
     rw [← hp] at hca
     rw [← hr] at hcb
     have HQ := Aside0.mk (by rw [hd, hp, hr, he4, he1, hA]; rfl : rda a C (x + 1) = rdi A x d 5)
     clear hp hr hd he4 he1 HR hA
     go_wp2
     go_quiet ((go_at_call 74; exact Calls.quiet_of (left1_calls r _)))
     have HI : Aside0 (Q1 w (rdi A x d 0) C (wr.drewN nq)) := ⟨HR2.out.drewN nq⟩
     clear hca hcb HR2 K3 K1 K2 k1 k2
     generalize wr.drewN nq = wd at HI ⊢
     go_wp2
     go_loopw [9] (fun i wr => ∃ y : Nat, i = .int .i64 (y : Int) ∧ y ≤ 5 ∧ Aside0 (Q1 w (rdi A x d y) C wr)) (fun i _ => 5 - (intOf i).toNat)
     case atStart => exact ⟨0, rfl, by omega, HI⟩
     case round =>
      clear HI
      obtain ⟨y, rfl, hy1, HR⟩ := hrel
      by_cases c5 : y < 5
      ·have c5b : (y : Int) < 5 := by omega
       have c5c := eq_true c5b
       go_wp2
       refine region_qtail 11 (by kernel_rfl) (by kernel_rfl) (fun wd hwd => ?_)
       simp only [List.take_succ_cons, List.take_zero, List.drop_succ_cons, List.drop_zero]
       have HR2 : Aside0 (Q1 w (rdi A x d y) C wd) := ⟨by rw [hwd]; exact HR.out.drew⟩
       clear HR hwd
       obtain ⟨q, hq⟩ : ∃ q, q = (rdi A x d y).getD (x * 5 + y) 0 := ⟨_, rfl⟩
       obtain ⟨v, hv⟩ : ∃ v, v = q ^^^ d := ⟨_, rfl⟩
       have hc0 := cell_enc (i := x * 5 + y) HR2.out.h0 (by rw [rdi_len]; omega)
       have hf0 := frozen_of_row wd w.heap.size (x * 5 + y) _ 94 HR2.out.h0
       rw [← hq] at hc0
       have K1 : bits .xor .u64 (q.toNat : Int) (d.toNat : Int) = (v.toNat : Int) := by rw [bits_x, hv]
       have HQ2 := Aside0.mk (by rw [hv, hq]; rfl : rdi A x d (y + 1) = (rdi A x d y).set (x * 5 + y) v)
       clear hq hv
       repeat (go_big_quiet_step (fail))
       refine wpQuiet_nil ?_
       go_wp2
       refine ⟨⟨y + 1, by simp, by omega, ⟨?_⟩⟩, by simp [intOf]; omega⟩
       rw [HQ2.out]
       exact HR2.out.setA (x * 5 + y) v
      ·obtain rfl : y = 5 := by omega
       go_wp2
       refine ⟨⟨x + 1, by simp, by omega, ⟨?_⟩⟩, by simp [intOf]; omega⟩
       rw [HQ.out]
       exact HR.out
    ·obtain rfl : x = 5 := by omega
     clear c4 hx1
     obtain ⟨T, hT⟩ : ∃ T, T = theta a := ⟨_, rfl⟩
     have hTl : T.length = 25 := by rw [hT, theta, rda_len, ha]
     have HI : Aside0 (Q1 w (rt T 0).2.2 C wr) := ⟨by rw [rt_0, hT, theta, ← HC.out]; exact HR.out⟩
     have HT := Aside0.mk hT
     clear HR hT HC
     go_wp2
     go_loopw [10, 11, 12] (fun u v i wr => ∃ x : Nat, u = .int .i64 ((rt T x).1 : Int) ∧ v = .int .i64 ((rt T x).2.1 : Int) ∧ i = .int .i64 (x : Int) ∧ x ≤ 24 ∧ Aside0 (Q1 w (rt T x).2.2 C wr)) (fun _ _ i _ => 24 - (intOf i).toNat)
     case atStart => exact ⟨0, rfl, rfl, rfl, by omega, HI⟩
     case round =>
      clear HI
      obtain ⟨x, rfl, rfl, rfl, hx1, HR⟩ := hrel
      by_cases c4 : x < 24
      ·have c4b : (x : Int) < 24 := by omega
       have c4c := eq_true c4b
       have hok := rt_lt T x
       obtain ⟨p, hp⟩ : ∃ p, p = (rt T x).1 := ⟨_, rfl⟩
       obtain ⟨q, hq⟩ : ∃ p, p = (rt T x).2.1 := ⟨_, rfl⟩
       obtain ⟨A, hA⟩ : ∃ p, p = (rt T x).2.2 := ⟨_, rfl⟩
       have hAl : A.length = 25 := by rw [hA, rt_len, hTl]
       rw [← hp, ← hq] at hok ⊢
       rw [← hA] at HR
       obtain ⟨tn, htn⟩ : ∃ v, v = (x + 1) * (x + 2) / 2 % 64 := ⟨_, rfl⟩
       obtain ⟨r, hr⟩ : ∃ r, r = A.getD (p * 5 + q) 0 := ⟨_, rfl⟩
       have HQ := Aside0.mk (⟨by rw [hr, htn, hA, hp, hq]; rfl, by rw [hq]; rfl, by rw [hp, hq]; rfl, hok, by rw [htn]; exact Nat.mod_lt _ (by decide)⟩ : (rt T (x + 1)).2.2 = A.set (p * 5 + q) (rotl r tn) ∧ (rt T (x + 1)).1 = q ∧ (rt T (x + 1)).2.1 = (2 * p + 3 * q) % 5 ∧ (p < 5 ∧ q < 5) ∧ tn < 64)
       have hb1 : ((x : Int) + 1) * (x + 2) ≤ 650 := by
        have : (x + 1) * (x + 2) ≤ 25 * 26 := Nat.mul_le_mul (by omega) (by omega)
        have h2 : (((x + 1) * (x + 2) : Nat) : Int) ≤ 650 := by omega
        simpa using h2
       have hb2 : 0 ≤ ((x : Int) + 1) * (x + 2) := Int.mul_nonneg (by omega) (by omega)
       have K2 : ((x : Int) + 1) * (x + 2) / 2 % 64 = tn := by rw [htn]; simp
       have k1 : (p : Int) < 5 := by omega
       have k2 : (q : Int) < 5 := by omega
       have hc0 := cell_enc (i := p * 5 + q) HR.out.h0 (by omega)
       rw [← hr] at hc0
       have hf0 := frozen_of_row wr w.heap.size (p * 5 + q) _ 94 HR.out.h0
       clear hp hq hA htn hr hok
       go_wp2
       refine QTail.region_qtailC 17 (by kernel_rfl) (by kernel_rfl) ?_
       simp only [List.take_succ_cons, List.take_zero, List.drop_succ_cons, List.drop_zero]
       clear hf0
       repeat (go_big_quiet_step ((go_at_call 74; exact Calls.quiet_of (left_calls r tn HQ.out.2.2.2.2 _))))
       refine wpQuiet_nil ?_
       rintro wd ⟨m, hwd⟩
       have HR2 : Aside0 (Q1 w A C wd) := ⟨by rw [hwd]; exact HR.out.drewN m⟩
       clear HR hc0 hwd
       have hc0 := cell_enc (i := p * 5 + q) HR2.out.h0 (by have := HQ.out.2.2.2.1; omega)
       have hf0 := frozen_of_row wd w.heap.size (p * 5 + q) _ 94 HR2.out.h0
       go_wp2
       refine ⟨⟨x + 1, by rw [HQ.out.2.1], by rw [HQ.out.2.2.1]; simp, by simp, by omega, ⟨?_⟩⟩, by simp [intOf]; omega⟩
       rw [HQ.out.1]
       exact HR2.out.setA (p * 5 + q) (rotl r tn)
      ·obtain rfl : x = 24 := by omega
       obtain ⟨A, hA⟩ : ∃ A, A = rho (theta a) := ⟨_, rfl⟩
       have hAe : (rt T 24).2.2 = A := by rw [hA, rho, HT.out]
       have hAl : A.length = 25 := by rw [← hAe, rt_len, hTl]
       have HR2 : Aside0 (Q1 w A C wr) := ⟨by rw [← hAe]; exact HR.out⟩
       have HA := Aside0.mk hA
       have hsz := HR2.out.sz
       clear HR hA hAe c4 hx1
       generalize ((rt T 24).1 : Int) = g1
       generalize ((rt T 24).2.1 : Int) = g2
       generalize wr = wq at HR2 hsz ⊢
       go_wp2_with (first
        | ((with_reducible refine gate_dst (N := 108) rfl ?_); go_loud (refine wpList_built0 rfl 94 rfl (enc (List.replicate 25 0)) built25 ?_))
        | ((with_reducible refine gate_store (t := 94) rfl ?_); go_loud (refine wpList_store_row rfl 94 (.tmp 13) (.tmp 108) rfl (w.heap.size + 3) (enc (List.replicate 25 0)) rfl rfl 94 (enc (List.replicate 25 0)) (h_new (by omega)) (by rw [enc_size]; kernel_rfl) rfl (enc_one _) ?_)))
       have HI : Aside0 (Q2 w A (rb A 0) ((wq.alloc (.cells (enc (List.replicate 25 0)) 94)).setRow (w.heap.size + 3) (enc (List.replicate 25 0)))) :=
        ⟨⟨(setRow_other _ _ _ _ (by omega)).trans ((h_old (by omega)).trans HR2.out.h0), (setRow_other _ _ _ _ (by omega)).trans ((h_old (by omega)).trans HR2.out.h1), setRow_heap _ _ _ _ _ _ (h_new (by omega)), below_setRow (below_alloc HR2.out.hb _) (by omega)⟩⟩
       clear HR2
       clear hsz
       go_wp2
       go_loopw [14] (fun i wr => ∃ x : Nat, i = .int .i64 (x : Int) ∧ x ≤ 5 ∧ Aside0 (Q2 w A (rb A x) wr)) (fun i _ => 5 - (intOf i).toNat)
       case atStart => exact ⟨0, rfl, by omega, HI⟩
       case round =>
        clear HI
        obtain ⟨x, rfl, hx1, HR⟩ := hrel
        by_cases c4 : x < 5
        ·have c4b : (x : Int) < 5 := by omega
         have c4c := eq_true c4b
         obtain ⟨B, hB⟩ : ∃ B, B = rb A x := ⟨_, rfl⟩
         have hBl : B.length = 25 := by rw [hB, rb_len]
         have HI : Aside0 (Q2 w A (rbi A B x 0) wr) := ⟨by rw [rbi_0, hB]; exact HR.out⟩
         have HB := Aside0.mk (by rw [hB, rb_s] : rb A (x + 1) = rbi A B x 5)
         clear HR hB
         go_wp2
         go_loopw [15] (fun i wr => ∃ y : Nat, i = .int .i64 (y : Int) ∧ y ≤ 5 ∧ Aside0 (Q2 w A (rbi A B x y) wr)) (fun i _ => 5 - (intOf i).toNat)
         case atStart => exact ⟨0, rfl, by omega, HI⟩
         case round =>
          clear HI
          obtain ⟨y, rfl, hy1, HR⟩ := hrel
          by_cases c5 : y < 5
          ·have c5b : (y : Int) < 5 := by omega
           have c5c := eq_true c5b
           go_wp2
           refine region_qtail 14 (by kernel_rfl) (by kernel_rfl) (fun wd hwd => ?_)
           simp only [List.take_succ_cons, List.take_zero, List.drop_succ_cons, List.drop_zero]
           have HR2 : Aside0 (Q2 w A (rbi A B x y) wd) := ⟨by rw [hwd]; exact HR.out.drew⟩
           clear HR hwd
           obtain ⟨m, hm⟩ : ∃ m, m = (2 * x + 3 * y) % 5 := ⟨_, rfl⟩
           obtain ⟨p, hp⟩ : ∃ p, p = A.getD (x * 5 + y) 0 := ⟨_, rfl⟩
           have K1 : (2 * (x : Int) + 3 * y) % 5 = m := by omega
           have k1 : (m : Int) < 5 := by omega
           have hc0 := cell_enc (i := x * 5 + y) HR2.out.h0 (by omega)
           rw [← hp] at hc0
           have hc1 := cell_enc (i := y * 5 + m) HR2.out.h3 (by rw [rbi_len]; omega)
           have hf1 := frozen_of_row wd (w.heap.size + 3) (y * 5 + m) _ 94 HR2.out.h3
           have HQ2 := Aside0.mk (by rw [rbi_s, ← hm, ← hp] : rbi A B x (y + 1) = (rbi A B x y).set (y * 5 + m) p)
           clear hm hp
           repeat (go_big_quiet_step (fail))
           refine wpQuiet_nil ?_
           go_wp2
           refine ⟨⟨y + 1, by simp, by omega, ⟨?_⟩⟩, by simp [intOf]; omega⟩
           rw [HQ2.out]
           exact HR2.out.setB (y * 5 + m) p
          ·obtain rfl : y = 5 := by omega
           go_wp2
           refine ⟨⟨x + 1, by simp, by omega, ⟨?_⟩⟩, by simp [intOf]; omega⟩
           rw [HB.out]
           exact HR.out
        ·obtain rfl : x = 5 := by omega
         obtain ⟨B, hB⟩ : ∃ B, B = rb A 5 := ⟨_, rfl⟩
         have hBl : B.length = 25 := by rw [hB, rb_len]
         have HI : Aside0 (Q2 w (rx B A 0) B wr) := ⟨by rw [rx_0, hB]; exact HR.out⟩
         have HB := Aside0.mk hB
         clear HR hB
         go_wp2
         go_loopw [16] (fun i wr => ∃ x : Nat, i = .int .i64 (x : Int) ∧ x ≤ 5 ∧ Aside0 (Q2 w (rx B A x) B wr)) (fun i _ => 5 - (intOf i).toNat)
         case atStart => exact ⟨0, rfl, by omega, HI⟩
         case round =>
          clear HI
          obtain ⟨x, rfl, hx1, HR⟩ := hrel
          by_cases c4 : x < 5
          ·have c4b : (x : Int) < 5 := by omega
           have c4c := eq_true c4b
           obtain ⟨D, hD⟩ : ∃ D, D = rx B A x := ⟨_, rfl⟩
           have hDl : D.length = 25 := by rw [hD, rx_len, hAl]
           have HI : Aside0 (Q2 w (rxi B D x 0) B wr) := ⟨by rw [rxi_0, hD]; exact HR.out⟩
           have HD := Aside0.mk (by rw [hD, rx_s] : rx B A (x + 1) = rxi B D x 5)
           clear HR hD
           go_wp2
           go_loopw [17] (fun i wr => ∃ y : Nat, i = .int .i64 (y : Int) ∧ y ≤ 5 ∧ Aside0 (Q2 w (rxi B D x y) B wr)) (fun i _ => 5 - (intOf i).toNat)
           case atStart => exact ⟨0, rfl, by omega, HI⟩
           case round =>
            clear HI
            obtain ⟨y, rfl, hy1, HR⟩ := hrel
            by_cases c5 : y < 5
            ·have c5b : (y : Int) < 5 := by omega
             have c5c := eq_true c5b
             go_wp2
             refine region_qtail 26 (by kernel_rfl) (by kernel_rfl) (fun wd hwd => ?_)
             simp only [List.take_succ_cons, List.take_zero, List.drop_succ_cons, List.drop_zero]
             have HR2 : Aside0 (Q2 w (rxi B D x y) B wd) := ⟨by rw [hwd]; exact HR.out.drew⟩
             clear HR hwd
             obtain ⟨m1, hm1⟩ : ∃ m, m = (x + 1) % 5 := ⟨_, rfl⟩
             obtain ⟨m2, hm2⟩ : ∃ m, m = (x + 2) % 5 := ⟨_, rfl⟩
             obtain ⟨p, hp⟩ : ∃ p, p = B.getD (x * 5 + y) 0 := ⟨_, rfl⟩
             obtain ⟨q, hq⟩ : ∃ p, p = B.getD (m1 * 5 + y) 0 := ⟨_, rfl⟩
             obtain ⟨r, hr⟩ : ∃ p, p = B.getD (m2 * 5 + y) 0 := ⟨_, rfl⟩
             have K1 : ((x : Int) + 1) % 5 = m1 := by omega
             have K2 : ((x : Int) + 2) % 5 = m2 := by omega
             have k1 : (m1 : Int) < 5 := by omega
             have k2 : (m2 : Int) < 5 := by omega
             have hcp := cell_enc (i := x * 5 + y) HR2.out.h3 (by omega)
             have hcq := cell_enc (i := m1 * 5 + y) HR2.out.h3 (by omega)
             have hcr := cell_enc (i := m2 * 5 + y) HR2.out.h3 (by omega)
             rw [← hp] at hcp
             rw [← hq] at hcq
             rw [← hr] at hcr
             have hc0 := cell_enc (i := x * 5 + y) HR2.out.h0 (by rw [rxi_len]; omega)
             have hf0 := frozen_of_row wd w.heap.size (x * 5 + y) _ 94 HR2.out.h0
             have HQ2 := Aside0.mk (by rw [rxi_s, ← hm1, ← hm2, ← hp, ← hq, ← hr] : rxi B D x (y + 1) = (rxi B D x y).set (x * 5 + y) (p ^^^ (~~~ q &&& r)))
             clear hm1 hm2 hp hq hr
             repeat (go_big_quiet_step (fail))
             refine wpQuiet_nil ?_
             go_wp2
             refine ⟨⟨y + 1, by simp, by omega, ⟨?_⟩⟩, by simp [intOf]; omega⟩
             rw [HQ2.out, not_w, bits_a, bits_x]
             exact HR2.out.setA (x * 5 + y) (p ^^^ (~~~ q &&& r))
            ·obtain rfl : y = 5 := by omega
             go_wp2
             refine ⟨⟨x + 1, by simp, by omega, ⟨?_⟩⟩, by simp [intOf]; omega⟩
             rw [HD.out]
             exact HR.out
          ·obtain rfl : x = 5 := by omega
           obtain ⟨E, hE⟩ : ∃ E, E = rx B A 5 := ⟨_, rfl⟩
           have hEl : E.length = 25 := by rw [hE, rx_len, hAl]
           have hh0 := HR.out.h0
           rw [← hE] at hh0
           have h00 := cell_enc (i := 0) hh0 (by omega)
           have hf0 := frozen_of_row wr w.heap.size 0 _ 94 hh0
           obtain ⟨p, hp⟩ : ∃ p, p = E.getD 0 0 := ⟨_, rfl⟩
           rw [← hp] at h00
           obtain ⟨v, hv⟩ : ∃ v, v = p ^^^ k := ⟨_, rfl⟩
           have hbx : bits .xor .u64 (p.toNat : Int) (k.toNat : Int) = (v.toNat : Int) := by rw [bits_x, hv]
           have HRR := Aside0.mk (by rw [round3, hv, hp, hE, chi, HB.out, HA.out] : round3 a k = E.set 0 v)
           have HH := Aside0.mk hh0
           clear hh0 hE hp hv
           go_wp2_with (first
            | ((with_reducible refine gate_dst (N := 172) rfl ?_); go_loud (refine wpList_load_row rfl 94 (.tmp 2) rfl w.heap.size rfl 94 (enc (E.set 0 v)) (0, 0) (.array 5 93) ?g0 hu117 rfl ?g1 ?_); (case g0 => exact heap_set_enc (i := 0) v HH.out); (case g1 => rw [enc_size, List.length_set, hEl]; kernel_rfl))
            | ((with_reducible refine gate_store (t := 94) rfl ?_); go_loud (refine wpList_store_row rfl 94 (.tmp 4) (.tmp 172) rfl (w.heap.size + 1) (enc (E.set 0 v)) rfl rfl 94 (enc (List.replicate 25 0)) ?g2 ?g3 ?g4 (enc_one _) ?_); (case g2 => exact (heap_setCell_other _ _ _ _ (by show _ ≠ w.heap.size; omega)).trans HR.out.h1); (case g3 => rw [enc_size, List.length_set, hEl]; kernel_rfl); (case g4 => rw [enc_size, enc_size, List.length_set, hEl]; rfl)))
           refine bodyPost_ret (v := .agg (enc (E.set 0 v))) ?_ rfl ⟨by rw [HRR.out], below_setRow (below_set HR.out.hb (Nat.le_refl _)) (by omega)⟩
           exact results_cell_row rfl _ _ (w.heap.size + 1) 94 _ (0, 0) _ rfl (setRow_heap _ _ _ _ _ _ ((heap_setCell_other _ _ _ _ (by show _ ≠ w.heap.size; omega)).trans HR.out.h1)) hu117 rfl (by rw [enc_size, List.length_set, hEl]; kernel_rfl)
end Go.Proofs.YtanabbjakacgbaaGreatDoor.Sp
namespace Go.Proofs.YtanabbjakacgbaaGreatDoor.Sp
open Go.RowKit Go.Proofs.YtanabbjakacgbaaGreatDoorW.PrintWords Go.Proofs.YtanabbjakacgbaaGreatDoorW.PrintLast Go.Proofs.YtanabbjakacgbaaGreatDoorW.PrintMore
set_option linter.unusedVariables false
set_option linter.unusedSimpArgs false
def leF (L : List Int) (p : Nat) : Nat → W
 | 0 => 0
 | j + 1 => (leF L p j <<< 8) ||| BitVec.ofNat 64 (L.getD (p + (7 - j)) 0).toNat
def ab (L : List Int) (p : Nat) (a : List W) : Nat → List W
 | 0 => a
 | i + 1 => (ab L p a i).set (i % 5 * 5 + i / 5) ((ab L p a i).getD (i % 5 * 5 + i / 5) 0 ^^^ leF L (p + 8 * i) 8)
def rr (a : List W) : Nat → List W
 | 0 => a
 | t + 1 => round3 (rr a t) (wordsW.getD t 0)
def bl (L : List Int) : Nat → List W
 | 0 => List.replicate 25 0
 | b + 1 => rr (ab L (136 * b) (bl L b) 17) 24
def out3 (a : List W) : Nat → List Int
 | 0 => List.replicate 32 0
 | i + 1 => (out3 a i).set i ((((a.getD (i / 8 * 5) 0) >>> (8 * (i % 8))).toNat : Int) % 256)
def padN (n : Nat) : Nat := (136 - (n + 1) % 136) % 136
def padL (l : List Int) : List Int :=
 let e := l ++ 6 :: List.replicate (padN l.length) 0
 e.set (e.length - 1) ((e.getD (e.length - 1) 0 + 128) % 256)
def sum3 (l : List Int) : List Int := out3 (bl (padL l) ((padL l).length / 136)) 32
theorem ab_0 (L : List Int) (p : Nat) (a : List W) : ab L p a 0 = a := by rw [ab]
theorem ab_s (L : List Int) (p : Nat) (a : List W) (i : Nat) : ab L p a (i + 1) = (ab L p a i).set (i % 5 * 5 + i / 5) ((ab L p a i).getD (i % 5 * 5 + i / 5) 0 ^^^ leF L (p + 8 * i) 8) := by rw [ab]
theorem leF_s (L : List Int) (p j : Nat) : leF L p (j + 1) = (leF L p j <<< 8) ||| BitVec.ofNat 64 (L.getD (p + (7 - j)) 0).toNat := by rw [leF]
theorem rr_0 (a : List W) : rr a 0 = a := by rw [rr]
theorem rr_s (a : List W) (t : Nat) : rr a (t + 1) = round3 (rr a t) (wordsW.getD t 0) := by rw [rr]
theorem bl_0 (L : List Int) : bl L 0 = List.replicate 25 0 := by rw [bl]
theorem bl_s (L : List Int) (b : Nat) : bl L (b + 1) = rr (ab L (136 * b) (bl L b) 17) 24 := by rw [bl]
theorem out3_s (a : List W) (i : Nat) : out3 a (i + 1) = (out3 a i).set i ((((a.getD (i / 8 * 5) 0) >>> (8 * (i % 8))).toNat : Int) % 256) := by rw [out3]
theorem ab_len (L : List Int) (p : Nat) (a : List W) : ∀ i, (ab L p a i).length = a.length
 | 0 => by rw [ab_0]
 | i + 1 => by rw [ab_s, List.length_set, ab_len L p a i]
theorem round3_len (a : List W) (k : W) : (round3 a k).length = a.length := by
 rw [round3, List.length_set, chi, rx_len, rho, rt_len, theta, rda_len]
theorem rr_len (a : List W) : ∀ i, (rr a i).length = a.length
 | 0 => by rw [rr_0]
 | i + 1 => by rw [rr_s, round3_len, rr_len a i]
theorem bl_len (L : List Int) : ∀ i, (bl L i).length = 25
 | 0 => by rw [bl_0, List.length_replicate]
 | i + 1 => by rw [bl_s, rr_len, ab_len, bl_len L i]
theorem out3_len (a : List W) : ∀ i, (out3 a i).length = 32
 | 0 => by simp [out3]
 | i + 1 => by rw [out3_s, List.length_set, out3_len a i]
theorem padL_len (l : List Int) : (padL l).length = l.length + 1 + padN l.length := by
 simp [padL]; omega
abbrev Own8 (w : World) (base : Nat) (v : Value) (xs : List Int) : Prop := Kd.R (Kd.int .u8) 5 w base (fun _ => True) v xs
theorem own_u8 {w : World} {base g cap e : Nat} {cur : Array Value} {ds : List Int} (hg : w.heap[g]? = some (.cells cur e (0, 0))) (hb : base ≤ g) (hl : ds.length ≤ cap) (hm : cap ≤ maxLen) (hs : cur.size = cap * 1) (ht : cur.toList.take (ds.length * 1) = ds.map (Value.int .u8)) :
  Kd.R (Kd.int .u8) e w base (fun _ => True) (.slice (some ⟨g, 0, none⟩) ds.length cap) ds := by
 refine ⟨fun _ _ => trivial, ds.map (Value.int .u8), ⟨by rw [List.length_map]; exact (Nat.mul_one _).symm, .inr ⟨g, cap, cur, rfl, hb, hg, hl, hm, hs, ht⟩⟩, ?_, fun j p hp => ?_⟩
 ·rw [List.length_map]; exact (Nat.mul_one _).symm
 ·show ((ds.map (Value.int .u8)).drop (j * 1)).take 1 = [.int .u8 p]
  obtain ⟨h1, h2⟩ := List.getElem?_eq_some_iff.1 hp
  rw [Nat.mul_one, List.drop_eq_getElem_cons (by simpa using h1), List.getElem_map, h2]
  rfl
section
variable {ops : Array Oper} {rest : List Oper} {o : Oper} {a : Act} {Q : Exit → Act → World → Prop} {W w0 : World} {base : Nat}
theorem u8_rows (hgd : o.guard = none) (s x : Operand) (ho : o.op = .call { callee := .builtin .append, args := #[s, x], argTypes := #[53, 53] })
  (v : Value) (xs ys : List Int) (A : Option Addr) (m c : Nat) (hs : a.eval s = v) (hx : a.eval x = .slice A m c) (HO : Own8 W base v xs) (HR : Kd.C (Kd.int .u8) W A m ys) (HB : Below base w0 W) (hbase : base ≤ W.heap.size) (hl : xs.length + m ≤ 140737488355328)
  (h : ∀ v1 w1, Own8 w1 base v1 (xs ++ ys) → Below base w0 w1 → wpList Tryz.prog ops Q rest (a.put o.dst v1) w1) : wpList Tryz.prog ops Q (o :: rest) a W :=
 Kd.R_append_rows (Kd.int .u8) (Rr := fun x cs => cs = [.int .u8 x]) (w0 := w0) base hgd s x 53 5 (.int .u8 0) 1 ho Tryz.underlying53 infoByte rfl (by decide) (by omega) v xs ys A m c (fun _ => True) (fun _ => False) hs hx HO HR (fun _ _ h => h) (fun _ h => h.elim) (fun _ _ => trivial) HB hbase (by omega) (fun v1 w1 h1 h2 _ _ => h v1 w1 h1 h2)
theorem u8_one (hgd : o.guard = none) (s x : Operand) (ho : o.op = .call { callee := .builtin .append, args := #[s, x], argTypes := #[53, 53] })
  (v : Value) (xs : List Int) (p : Int) (hs : a.eval s = v) (hx : a.eval x = .slice (some ⟨W.heap.size, 0, none⟩) 1 1) (HO : Own8 W base v xs) (HB : Below base w0 W) (hbase : base ≤ W.heap.size) (hl : xs.length + 1 ≤ 140737488355328)
  (h : ∀ v1 w1, Own8 w1 base v1 (xs ++ [p]) → Below base w0 w1 → wpList Tryz.prog ops Q rest (a.put o.dst v1) w1) : wpList Tryz.prog ops Q (o :: rest) a (W.alloc (.cells #[.int .u8 p] 5)) :=
 Kd.R_append (Kd.int .u8) (w0 := w0) base hgd s x 53 5 (.int .u8 0) 1 ho Tryz.underlying53 infoByte rfl (by decide) (by omega) v xs p [.int .u8 p] (fun _ => True) (fun _ => False) hs hx rfl (fun _ h => h.elim) (fun _ _ => trivial) HO HB hbase (by omega) (fun v1 w1 h1 h2 _ _ => h v1 w1 h1 h2)
end
def RowU (w : World) (g : Nat) (L : List Int) : Prop := ∃ cur, w.heap[g]? = some (.cells cur 5 (0, 0)) ∧ cur.toList.take L.length = L.map (Value.int .u8)
theorem reps_u8 : ∀ (xs : List Int) (inner : List Value), Reps (fun x cs => cs = [Value.int .u8 x]) 1 xs inner → inner = xs.map (Value.int .u8) := by
 intro xs inner h
 obtain ⟨h1, h2⟩ := h
 apply List.ext_getElem?
 intro j
 rw [List.getElem?_map]
 by_cases hj : j < xs.length
 ·have h3 := h2 j _ (List.getElem?_eq_getElem hj)
  rw [Nat.mul_one] at h3
  have hl : j < inner.length := by omega
  rw [List.drop_eq_getElem_cons hl, List.take_succ_cons, List.take_zero] at h3
  rw [List.getElem?_eq_getElem hl, List.getElem?_eq_getElem hj]
  exact congrArg some (List.cons.inj h3).1
 ·rw [List.getElem?_eq_none (by omega), List.getElem?_eq_none (by omega)]; rfl
theorem own8_open {w : World} {base : Nat} {v : Value} {xs : List Int} (h : Own8 w base v xs) (hp : 0 < xs.length) : ∃ g cap, v = .slice (some ⟨g, 0, none⟩) xs.length cap ∧ base ≤ g ∧ g < w.heap.size ∧ RowU w g xs := by
 obtain ⟨_, inner, ⟨h1, h2⟩, hr⟩ := h
 have hi := reps_u8 xs inner hr
 rcases h2 with ⟨_, h3⟩ | ⟨g, cap, cur, rfl, hb, hg, hl, hm, hs, ht⟩
 ·omega
 ·refine ⟨g, cap, rfl, hb, (Array.getElem?_eq_some_iff.1 hg).1, cur, hg, ?_⟩
  rw [← hi]
  have : (Kd.int IntKind.u8).sz = 1 := rfl
  rw [this, Nat.mul_one] at ht
  exact ht
theorem RowU.get {w : World} {g i : Nat} {L : List Int} (h : RowU w g L) (hi : i < L.length) : w.cell? ⟨g, i, none⟩ = some (.int .u8 (L.getD i 0)) := by
 obtain ⟨cur, hg, ht⟩ := h
 rw [cell_of_row w g i _ 5 _ hg]
 have h2 : (cur.toList.take L.length)[i]? = (L.map (Value.int .u8))[i]? := by rw [ht]
 rw [List.getElem?_take, if_pos hi, List.getElem?_map, List.getElem?_eq_getElem hi] at h2
 rw [List.getD_eq_getElem?_getD, List.getElem?_eq_getElem hi]
 simpa using h2
theorem RowU.fro {w : World} {g i : Nat} {L : List Int} (h : RowU w g L) : w.frozen? ⟨g, i, none⟩ = false := by
 obtain ⟨cur, hg, _⟩ := h
 exact frozen_of_row w g i _ 5 hg
theorem RowU.set {w : World} {g i : Nat} {L : List Int} (h : RowU w g L) (x : Int) : RowU (w.setCell ⟨g, i, none⟩ (.int .u8 x)) g (L.set i x) := by
 obtain ⟨cur, hg, ht⟩ := h
 refine ⟨_, heap_setCell_same w g i _ 5 _ hg, ?_⟩
 rw [List.length_set, List.map_set, ← ht, Array.toList_setIfInBounds, List.take_set]
theorem RowU.of {w W : World} {g : Nat} {L : List Int} (h : RowU w g L) (he : W.heap[g]? = w.heap[g]?) : RowU W g L := by
 obtain ⟨cur, hg, ht⟩ := h
 exact ⟨cur, he.trans hg, ht⟩
theorem RowU.lt {w : World} {g : Nat} {L : List Int} (h : RowU w g L) : g < w.heap.size := by
 obtain ⟨cur, hg, _⟩ := h
 exact (Array.getElem?_eq_some_iff.1 hg).1
theorem padL_ok (l : List Int) (hl : ∀ b ∈ l, 0 ≤ b ∧ b < 256) : ∀ b ∈ padL l, 0 ≤ b ∧ b < 256 := by
 intro b hb
 unfold padL at hb
 rcases List.mem_or_eq_of_mem_set hb with hb | rfl
 ·rcases List.mem_append.1 hb with hb | hb
  ·exact hl b hb
  ·rcases List.mem_cons.1 hb with rfl | hb
   ·omega
   ·obtain ⟨_, rfl⟩ := List.mem_replicate.1 hb; omega
 ·omega
theorem quiet_load {P : Program} {ops : Array Oper} {rest : List Oper} {o : Oper} {a : Act} {w : World} {Q : Act → Prop} {n : Nat} (hd : o.dst = some n) (hgd : Region.wanted o (yielded ops a.tmps) = true) (ty : TypeId) (x : Operand) (ho : o.op = .load ty x) (p : Addr) (hx : a.eval x = .pointer (some p)) (v : Value)
  (hl : (loadVar ty p).run P w = .ok v w) (h : wpQuiet P ops (fun v => v = w) Q rest (a.put o.dst v)) : wpQuiet P ops (fun v => v = w) Q (o :: rest) a := by
 refine BigFrame.wpQuiet_want hgd (fun K hK => ⟨v, fun w' hw => ?_, hK _ h⟩)
 subst hw
 unfold Oper.quietAt execOp
 simp [ho, hx, Instr.loadAt, Instr.sureAddr, Sem.run_bind, Result.andThen, hl, Oper.quietUpon]
theorem built32 : Tryz.prog.built 30 [] = some (encI (List.replicate 32 0)) := by kernel_rfl
structure OutAt3 (w : World) (go ga : Nat) (S : List W) (x : Nat) (wr : World) : Prop where
 ho : wr.heap[go]? = some (.cells (encI (out3 S x)) 30 (0, 0))
 h4 : wr.heap[ga]? = some (.cells (enc S) 94 (0, 0))
 hN : wr.heap[w.heap.size]? = some (.cells (encI (List.replicate 32 0)) 30 (0, 0))
 hb : Below w.heap.size w wr
structure M3 (w : World) (g ga gk : Nat) (L : List Int) (a : List W) (wr : World) : Prop where
 hN : wr.heap[w.heap.size]? = some (.cells (encI (List.replicate 32 0)) 30 (0, 0))
 hg : RowU wr g L
 ha : wr.heap[ga]? = some (.cells (enc a) 94 (0, 0))
 hk : wr.heap[gk]? = some (.cells (enc wordsW) 95 (0, 0))
 hb : Below w.heap.size w wr
theorem M3.drew {w wr : World} {g ga gk : Nat} {L : List Int} {a : List W} (h : M3 w g ga gk L a wr) : M3 w g ga gk L a wr.drew := ⟨h.hN, h.hg, h.ha, h.hk, below_drew h.hb⟩
theorem M3.setA {w wr : World} {g ga gk : Nat} {L : List Int} {a : List W} (h : M3 w g ga gk L a wr) (h1 : w.heap.size < g) (h2 : g < ga) (h3 : ga < gk) (i : Nat) (x : W) : M3 w g ga gk L (a.set i x) (wr.setCell ⟨ga, i, none⟩ (U x)) :=
 ⟨(heap_setCell_other _ _ _ _ (by show _ ≠ ga; omega)).trans h.hN, h.hg.of (heap_setCell_other _ _ _ _ (by show _ ≠ ga; omega)), heap_set_enc x h.ha, (heap_setCell_other _ _ _ _ (by show _ ≠ ga; omega)).trans h.hk, below_set h.hb (by omega)⟩
set_option maxHeartbeats 4000000 in
set_option maxRecDepth 100000 in
theorem sum3_calls (l : List Int) (A : Option Addr) (c : Nat) (hb : ∀ b ∈ l, 0 ≤ b ∧ b < 256) (hc : l.length ≤ c) (hm : l.length ≤ 1000000000) (w : World) (hr : Kd.C (Kd.int .u8) w A l.length l) :
  Calls Tryz.prog 27 #[.slice A l.length c] w fun e w' => e = .returned (.agg (encI (sum3 l))) ∧ Below w.heap.size w w' := by
 have hu3 := Tryz.underlying3
 have hu115 := Tryz.underlying92
 have hu116 := Tryz.underlying93
 have hu117 := Tryz.underlying94
 have hu118 := Tryz.underlying95
 have hu50 := Tryz.underlying53
 have hu5 := Tryz.underlying5
 have hu27 := Tryz.underlying30
 have HS := Aside0.mk (⟨hr, hb⟩ : _ ∧ _)
 clear hr hb
 obtain ⟨w0, hw0⟩ : ∃ w0, w0 = w.alloc (.cells (encI (List.replicate 32 0)) 30) := ⟨_, rfl⟩
 have h0s : w0.heap.size = w.heap.size + 1 := by rw [hw0, World.size_alloc]
 have h00 : w0.heap[w.heap.size]? = some (.cells (encI (List.replicate 32 0)) 30 (0, 0)) := by rw [hw0]; exact h_new rfl
 have h0b : Below w.heap.size w w0 := by rw [hw0]; exact below_alloc (Below.refl _ _) _
 have H0 := Aside0.mk (⟨h0s, h00, h0b⟩ : _ ∧ _ ∧ _)
 have HW0 := Aside0.mk hw0
 clear h0s h00 h0b hw0
 go_enter Tryz.func27, Tryz.ntmps27
 have hOnce : True := trivial
 go_wp2_with (first
  | ((with_reducible refine gate_dst (N := 13) rfl ?_); clear hOnce; (rw [show w.alloc (.cells #[.int .u8 0, .int .u8 0, .int .u8 0, .int .u8 0, .int .u8 0, .int .u8 0, .int .u8 0, .int .u8 0, .int .u8 0, .int .u8 0, .int .u8 0, .int .u8 0, .int .u8 0, .int .u8 0, .int .u8 0, .int .u8 0, .int .u8 0, .int .u8 0, .int .u8 0, .int .u8 0, .int .u8 0, .int .u8 0, .int .u8 0, .int .u8 0, .int .u8 0, .int .u8 0, .int .u8 0, .int .u8 0, .int .u8 0, .int .u8 0, .int .u8 0, .int .u8 0] 30) = w0 from HW0.out.symm]))
  | ((with_reducible refine gate_dst (N := 15) rfl ?_); go_loud (refine u8_rows (w0 := w0) (base := w0.heap.size) rfl (.tmp 13) (.tmp 14) rfl _ [] l A l.length c rfl rfl ?g0 ?g1 ?g2 ?g3 ?g4 ?_); (case g0 => exact own_u8 (ds := []) (h_new rfl) (Nat.le_refl _) (Nat.le_refl _) (Nat.zero_le _) rfl rfl); (case g1 => exact Kd.C_below (Kd.C_below HS.out.1 H0.out.2.2) (below_alloc (Below.refl _ _) _)); (case g2 => exact below_alloc (Below.refl _ _) _); (case g3 => simp); (case g4 => simp; omega); intro v1 w1 ho1 hb1; rw [List.nil_append] at ho1; have HO1 := Aside0.mk ho1; have HB1 := Aside0.mk hb1; clear ho1 hb1; (obtain ⟨Ao1, co1, eo1⟩ := Kd.R_slice HO1.out); subst eo1)
  | ((with_reducible refine gate_dst (N := 18) rfl ?_); go_loud (refine u8_one (w0 := w0) (base := w0.heap.size) rfl (.tmp 16) (.tmp 17) rfl _ l 6 rfl rfl HO1.out HB1.out HB1.out.size ?g4 ?_); (case g4 => omega); intro v2 w2 ho2 hb2; have HO2 := Aside0.mk ho2; have HB2 := Aside0.mk hb2; clear ho2 hb2))
 clear HO1 HB1
 go_loopw [3] (fun v wr => ∃ x, x ≤ padN l.length ∧ Aside0 (Own8 wr w0.heap.size v (l ++ 6 :: List.replicate x 0)) ∧ Aside0 (Below w0.heap.size w0 wr)) (fun v _ => l.length + 1 + padN l.length - lenV v)
 case atStart => exact ⟨0, Nat.zero_le _, HO2, HB2⟩
 case round =>
  clear HO2 HB2
  obtain ⟨x, hx, HO, HB⟩ := hrel
  obtain ⟨A1, c1, e1⟩ := Kd.R_slice HO.out
  subst e1
  obtain ⟨E, hE⟩ : ∃ E, E = l ++ 6 :: List.replicate x 0 := ⟨_, rfl⟩
  have hEl : E.length = l.length + 1 + x := by rw [hE]; simp; omega
  have HO : Aside0 (Own8 wr w0.heap.size (.slice A1 E.length c1) E) := ⟨by rw [hE]; exact HO.out⟩
  rw [← hE]
  obtain ⟨n, hn⟩ : ∃ n, n = E.length := ⟨_, rfl⟩
  rw [← hn] at HO ⊢
  obtain ⟨m, hm⟩ : ∃ m, m = n % 136 := ⟨_, rfl⟩
  have hpd : padN l.length < 136 ∧ (l.length + 1 + padN l.length) % 136 = 0 := by unfold padN; omega
  have K1 : (n : Int) % 136 = m := by omega
  have HE := Aside0.mk hE
  have HN := Aside0.mk (⟨hn, hEl, hm, hpd⟩ : _ ∧ _ ∧ _ ∧ _)
  clear hE hn hEl hm hpd
  by_cases c4 : m = 0
  ·subst c4
   have hxp : x = padN l.length := by obtain ⟨g1, g2, g3, g4⟩ := HN.out; omega
   obtain ⟨g, cap, e2, hg1, hg2, hg3⟩ := own8_open HO.out (by have := HN.out.2.1; omega)
   have hnE : E.length = n := HN.out.1.symm
   rw [hnE] at e2
   injection e2 with e3 e4 e5
   subst e3 e5
   obtain ⟨i1, hi1⟩ : ∃ i, i = n - 1 := ⟨_, rfl⟩
   have hn1 : 1 ≤ n := by have := HN.out.2.1; omega
   have K2 : (n : Int) - 1 = i1 := by omega
   have k2 : (i1 : Int) < (n : Int) := by omega
   have k3 : (n : Int) ≤ 2000000000 := by obtain ⟨g1, g2, g3, g4⟩ := HN.out; omega
   have k4 : (i1 : Int) ≤ 2000000000 := by omega
   obtain ⟨v, hv⟩ : ∃ v, v = E.getD i1 0 := ⟨_, rfl⟩
   have hc1 := hg3.get (i := i1) (by omega)
   rw [← hv] at hc1
   have hf1 := hg3.fro (i := i1)
   have hL : padL l = E.set i1 ((v + 128) % 256) := by
    rw [padL, ← hxp, ← HE.out, hnE, ← hi1, ← hv]
   have HL := Aside0.mk hL
   have HB' : Aside0 (Below w.heap.size w wr) := ⟨H0.out.2.2.trans (Below.mono HB.out (by have := H0.out.1; omega))⟩
   have hN := (HB.out.block w.heap.size (by have := H0.out.1; omega)).trans H0.out.2.1
   have HR := Aside0.mk (⟨hg3.set (i := i1) ((v + 128) % 256), (heap_setCell_other _ ⟨g, i1, none⟩ w.heap.size (.int .u8 ((v + 128) % 256)) (by show w.heap.size ≠ g; have := H0.out.1; omega)).trans hN, below_set (g := g) (j := i1) (v := .int .u8 ((v + 128) % 256)) HB'.out (by have := H0.out.1; omega), size_sc wr ⟨g, i1, none⟩ (.int .u8 ((v + 128) % 256))⟩ : _ ∧ _ ∧ _ ∧ _)
   have HX := Aside0.mk (⟨by have := H0.out.1; omega, hg2⟩ : w.heap.size < g ∧ g < wr.heap.size)
   have hLl : (padL l).length = n := by rw [hL, List.length_set]; omega
   have hn0 : n % 136 = 0 := by have := HN.out.2.2.1; omega
   have HY := Aside0.mk (⟨hLl, hn0⟩ : _ ∧ _)
   clear hg1 hg2 hg3 hnE hi1 hv hL hN hxp hx HE HN hLl hn0
   have hOnce2 : True := trivial
   go_wp2_with (first
    | ((with_reducible refine gate_dst (N := 34) rfl ?_); clear hOnce2; (rw [← HL.out] at HR); (have hws := HR.out.2.2.2); (generalize wr.setCell ⟨g, i1, none⟩ (.int .u8 ((v + 128) % 256)) = w4 at HR hws ⊢); (obtain ⟨hR1, hR2, hR3, hR4⟩ := HR.out); (have HR := Aside0.mk (⟨hR1, hR2, hR3⟩ : _ ∧ _ ∧ _)); (have HX := Aside0.mk (⟨HX.out.1, by rw [hws]; exact HX.out.2⟩ : w.heap.size < g ∧ g < w4.heap.size)); clear hR1 hR2 hR3 hR4 hws; go_loud (refine wpList_built0 rfl 94 rfl (enc (List.replicate 25 0)) built25 ?_))
    | ((with_reducible refine gate_store (t := 94) rfl ?_); go_loud (refine wpList_store_row rfl 94 (.tmp 4) (.tmp 34) rfl w4.heap.size (enc (List.replicate 25 0)) rfl rfl 94 (enc (List.replicate 25 0)) (h_new rfl) (by rw [enc_size]; kernel_rfl) rfl (enc_one _) ?_))
    | (go_at_call 47; (refine (words_calls _).mono ?_); rintro e w5 ⟨rfl, hb5⟩)
    | ((with_reducible refine gate_store (t := 95) rfl ?_); go_loud (refine wpList_store_row rfl 95 (.tmp 5) (.tmp 35) rfl w5.heap.size (enc wordsW) rfl rfl 95 (enc (List.replicate 24 0)) (h_new rfl) (by rw [enc_size]; kernel_rfl) (by kernel_rfl) (enc_one _) ?_)))
   obtain ⟨L, hL⟩ : ∃ L, L = padL l := ⟨_, rfl⟩
   obtain ⟨ga, hga⟩ : ∃ ga, ga = w4.heap.size := ⟨_, rfl⟩
   obtain ⟨gk, hgk⟩ : ∃ gk, gk = w5.heap.size := ⟨_, rfl⟩
   rw [← hga, ← hgk]
   have hz5 := hb5.size
   rw [setRow_size, World.size_alloc] at hz5
   have hk5 : ∀ k, k < ga → w5.heap[k]? = w4.heap[k]? := fun k hk => (hb5.block k (by rw [setRow_size, World.size_alloc]; omega)).trans ((setRow_other _ _ _ _ (by omega)).trans (h_old (by omega)))
   have ha5 : w5.heap[ga]? = some (.cells (enc (List.replicate 25 0)) 94 (0, 0)) := (hb5.block ga (by rw [setRow_size, World.size_alloc]; omega)).trans (by rw [hga]; exact setRow_heap _ _ _ _ _ _ (h_new rfl))
   have hb5' : Below w.heap.size w w5 := HR.out.2.2.trans (Below.mono ((below_setRow (w := w4) (below_alloc (Below.refl _ _) _) (Nat.le_refl _)).trans (Below.mono hb5 (by rw [setRow_size, World.size_alloc]; omega))) HR.out.2.2.size)
   have HM : Aside0 (M3 w g ga gk L (bl L 0) ((w5.alloc (.cells (enc (List.replicate 24 0)) 95)).setRow gk (enc wordsW))) := by
    refine ⟨⟨?_, ?_, ?_, ?_, ?_⟩⟩
    ·exact (setRow_other _ _ _ _ (by have := HX.out; omega)).trans ((h_old (by have := HX.out; omega)).trans ((hk5 _ (by have := HX.out; omega)).trans HR.out.2.1))
    ·rw [hL]; exact HR.out.1.of ((setRow_other _ _ _ _ (by have := HX.out; omega)).trans ((h_old (by have := HX.out; omega)).trans (hk5 _ (by have := HX.out; omega))))
    ·rw [bl_0]; exact (setRow_other _ _ _ _ (by omega)).trans ((h_old (by omega)).trans ha5)
    ·exact setRow_heap _ _ _ _ _ _ (h_new hgk)
    ·exact below_setRow (below_alloc hb5' _) (by have := hb5'.size; omega)
   have hlt : w.heap.size < g ∧ g < ga ∧ ga < gk := by have := HX.out; omega
   have HLT := Aside0.mk hlt
   have HYL : Aside0 (L.length = n ∧ n % 136 = 0 ∧ sum3 l = out3 (bl L (n / 136)) 32) := ⟨by rw [hL]; exact HY.out.1, HY.out.2, by rw [sum3, HY.out.1, ← hL]⟩
   have HLB : Aside0 (∀ b ∈ L, 0 ≤ b ∧ b < 256) := ⟨by rw [hL]; exact padL_ok l HS.out.2⟩
   clear hz5 hk5 ha5 hb5' hb5 hlt hga hgk hL HR HX HY HB' HL HO HB K2 k2 hn1
   have hL2 : L.length = n := HYL.out.1
   go_wp2
   go_loopw [6] (fun i wr => ∃ b : Nat, i = .int .i64 ((136 * b : Nat) : Int) ∧ 136 * b ≤ n ∧ Aside0 (M3 w g ga gk L (bl L b) wr)) (fun i _ => n - (intOf i).toNat)
   case atStart => exact ⟨0, rfl, by omega, HM⟩
   case round =>
    clear HM
    obtain ⟨b, rfl, hb1, HR⟩ := hrel
    obtain ⟨p, hp⟩ : ∃ p, p = 136 * b := ⟨_, rfl⟩
    rw [← hp] at hb1 ⊢
    have HP := Aside0.mk hp
    clear hp
    by_cases c5 : p < n
    ·have c5b : (p : Int) < (n : Int) := by omega
     have c5c := eq_true c5b
     have c5d := decide_eq_true c5b
     have hp136 : p + 136 ≤ n := by have h1 := HP.out; have h2 := HYL.out.2.1; omega
     obtain ⟨a0, ha0⟩ : ∃ a, a = bl L b := ⟨_, rfl⟩
     have ha0l : a0.length = 25 := by rw [ha0, bl_len]
     have HI : Aside0 (M3 w g ga gk L (ab L p a0 0) wr) := ⟨by rw [ab_0, ha0]; exact HR.out⟩
     have HBL := Aside0.mk (by rw [bl_s, ← ha0, ← HP.out] : bl L (b + 1) = rr (ab L p a0 17) 24)
     clear HR ha0
     generalize wr = wq at HI ⊢
     go_wp2
     go_loopw [7] (fun i wr => ∃ x : Nat, i = .int .i64 (x : Int) ∧ x ≤ 17 ∧ Aside0 (M3 w g ga gk L (ab L p a0 x) wr)) (fun i _ => 17 - (intOf i).toNat)
     case atStart => exact ⟨0, rfl, by omega, HI⟩
     case round =>
      clear HI
      obtain ⟨x, rfl, hx1, HR⟩ := hrel
      by_cases c6 : x < 17
      ·have c6b : (x : Int) < 17 := by omega
       have c6c := eq_true c6b
       go_wp2
       have HI : Aside0 (M3 w g ga gk L (ab L p a0 x) wr) := HR
       clear HR
       generalize wr = wq at HI ⊢
       go_loopw [8, 9] (fun v i wr => ∃ y : Nat, v = U (leF L (p + 8 * x) y) ∧ i = .int .i64 (7 - (y : Int)) ∧ y ≤ 8 ∧ Aside0 (M3 w g ga gk L (ab L p a0 x) wr)) (fun _ i _ => (intOf i + 1).toNat)
       case atStart => exact ⟨0, rfl, rfl, by omega, HI⟩
       case round =>
        clear HI
        obtain ⟨y, rfl, rfl, hy1, HR⟩ := hrel
        obtain ⟨q, hq⟩ : ∃ q, q = leF L (p + 8 * x) y := ⟨_, rfl⟩
        rw [← hq]
        have HQ := Aside0.mk hq
        clear hq
        by_cases c7 : y < 8
        ·obtain ⟨j, hj⟩ : ∃ j, j = 7 - y := ⟨_, rfl⟩
         obtain ⟨t, ht⟩ : ∃ t, t = p + 8 * x + j := ⟨_, rfl⟩
         have K1 : (7 : Int) - y = j := by omega
         rw [K1]
         have K2 : (p : Int) + 8 * x + j = t := by omega
         have k1 : (j : Int) < 8 := by omega
         have k2 : (t : Int) < (n : Int) := by omega
         have hc0 := HR.out.hg.get (i := t) (by omega)
         obtain ⟨e, he⟩ : ∃ y : W, y = BitVec.ofNat 64 (L.getD t 0).toNat := ⟨_, rfl⟩
         have hbb : 0 ≤ L.getD t 0 ∧ L.getD t 0 < 256 := by
          rw [List.getD_eq_getElem?_getD, List.getElem?_eq_getElem (by omega)]
          exact HLB.out _ (List.getElem_mem _)
         have hen : L.getD t 0 = (e.toNat : Int) := by
          rw [he, BitVec.toNat_ofNat]
          omega
         have hy1 : (e.toNat : Int) < 256 := by omega
         rw [hen] at hc0
         obtain ⟨r, hr⟩ : ∃ r, r = q <<< 8 := ⟨_, rfl⟩
         obtain ⟨v, hv⟩ : ∃ v, v = r ||| e := ⟨_, rfl⟩
         have K4 : IntKind.u64.wrap ((q.toNat : Int) * 256) = (r.toNat : Int) := by rw [hr]; exact shl_w q 8
         have K5 : bits .or .u64 (r.toNat : Int) (e.toNat : Int) = (v.toNat : Int) := by rw [bits_o, hv]
         have HV := Aside0.mk (by rw [leF_s, ← HQ.out, hv, hr, he, ht, hj] : leF L (p + 8 * x) (y + 1) = v)
         have HJ := Aside0.mk hj
         clear ht he hbb hen hr hv hj
         go_wp2
         refine ⟨⟨y + 1, by rw [HV.out], ?_, by omega, HR⟩, by simp [intOf]⟩
         have := HJ.out
         congr 1
         omega
        ·obtain rfl : y = 8 := by omega
         obtain ⟨x5, hx5⟩ : ∃ n, n = x % 5 := ⟨_, rfl⟩
         obtain ⟨y5, hy5⟩ : ∃ n, n = x / 5 := ⟨_, rfl⟩
         obtain ⟨d, hd⟩ : ∃ d, d = (ab L p a0 x).getD (x5 * 5 + y5) 0 := ⟨_, rfl⟩
         obtain ⟨v, hv⟩ : ∃ v, v = d ^^^ q := ⟨_, rfl⟩
         have K1 : (x : Int) % 5 = x5 := by omega
         have K2 : (x : Int) / 5 = y5 := by omega
         have k1 : (x5 : Int) < 5 := by omega
         have k2 : (y5 : Int) < 5 := by omega
         have K3 : bits .xor .u64 (d.toNat : Int) (q.toNat : Int) = (v.toNat : Int) := by rw [bits_x, hv]
         go_wp2
         refine region_qtail 15 (by kernel_rfl) (by kernel_rfl) (fun wd hwd => ?_)
         simp only [List.take_succ_cons, List.take_zero, List.drop_succ_cons, List.drop_zero]
         have HR2 : Aside0 (M3 w g ga gk L (ab L p a0 x) wd) := ⟨by rw [hwd]; exact HR.out.drew⟩
         clear HR hwd
         have hc0 := cell_enc (i := x5 * 5 + y5) HR2.out.ha (by rw [ab_len]; omega)
         rw [← hd] at hc0
         have hf0 := frozen_of_row wd ga (x5 * 5 + y5) _ 94 HR2.out.ha
         have HV := Aside0.mk (by rw [ab_s, ← HQ.out, hv, hd, hx5, hy5] : ab L p a0 (x + 1) = (ab L p a0 x).set (x5 * 5 + y5) v)
         clear hd hv hx5 hy5
         repeat (go_big_quiet_step (fail))
         refine wpQuiet_nil ?_
         go_wp2
         refine ⟨⟨x + 1, by simp, by omega, ⟨?_⟩⟩, by simp [intOf]; omega⟩
         rw [HV.out]
         exact HR2.out.setA HLT.out.1 HLT.out.2.1 HLT.out.2.2 (x5 * 5 + y5) v
      ·obtain rfl : x = 17 := by omega
       rw [show ((17 : Nat) : Int) = (17 : Int) from rfl]
       obtain ⟨a1, ha1⟩ : ∃ a, a = ab L p a0 17 := ⟨_, rfl⟩
       have ha1l : a1.length = 25 := by rw [ha1, ab_len, ha0l]
       have HI : Aside0 (M3 w g ga gk L (rr a1 0) wr) := ⟨by rw [rr_0, ha1]; exact HR.out⟩
       have HBL2 : Aside0 (bl L (b + 1) = rr a1 24) := ⟨by rw [ha1]; exact HBL.out⟩
       clear HR HBL ha1
       generalize wr = wq at HI ⊢
       go_wp2
       go_loopw [10] (fun i wr => ∃ x : Nat, i = .int .i64 (x : Int) ∧ x ≤ 24 ∧ Aside0 (M3 w g ga gk L (rr a1 x) wr)) (fun i _ => 24 - (intOf i).toNat)
       case atStart => exact ⟨0, rfl, by omega, HI⟩
       case round =>
        clear HI
        obtain ⟨x, rfl, hx1, HR⟩ := hrel
        by_cases c6 : x < 24
        ·have c6b : (x : Int) < 24 := by omega
         have c6c := eq_true c6b
         obtain ⟨B, hB⟩ : ∃ B, B = rr a1 x := ⟨_, rfl⟩
         have hBl : B.length = 25 := by rw [hB, rr_len, ha1l]
         obtain ⟨k, hk⟩ : ∃ k, k = wordsW.getD x 0 := ⟨_, rfl⟩
         have HV := Aside0.mk (by rw [rr_s, ← hB, ← hk] : rr a1 (x + 1) = round3 B k)
         rw [← hB] at HR
         go_wp2
         refine region_qtail 4 (by kernel_rfl) (by kernel_rfl) (fun wd hwd => ?_)
         simp only [List.take_succ_cons, List.take_zero, List.drop_succ_cons, List.drop_zero]
         have HR2 : Aside0 (M3 w g ga gk L B wd) := ⟨by rw [hwd]; exact HR.out.drew⟩
         clear HR hwd hB
         have hc0 := cell_enc (i := x) HR2.out.hk (by rw [show wordsW.length = 24 from rfl]; exact c6)
         rw [← hk] at hc0
         clear hk
         refine quiet_load rfl rfl 94 _ rfl _ (by rfl) (.agg (enc B)) (run_loadVar_row wd ga 94 94 (enc B) (0, 0) _ HR2.out.ha hu117 rfl (by rw [enc_size, hBl]; kernel_rfl)) ?_
         simp only [Act.put, List.setIfInBounds_toArray, List.set_cons_succ, List.set_cons_zero]
         repeat (go_big_quiet_step (fail))
         refine wpQuiet_nil ?_
         clear hc0
         go_wp2_with (first
          | (go_at_call 48; (refine (round3_calls B k hBl _).mono ?_); rintro e w3 ⟨rfl, hb3⟩)
          | ((with_reducible refine gate_store (t := 94) rfl ?_); go_loud (refine wpList_store_row rfl 94 (.tmp 4) (.tmp 86) rfl ga (enc (round3 B k)) rfl rfl 94 (enc B) ?g2 ?g3 ?g4 (enc_one _) ?_); (case g2 => exact (hb3.block _ (Array.getElem?_eq_some_iff.1 HR2.out.ha).1).trans HR2.out.ha); (case g3 => rw [enc_size, round3_len, hBl]; kernel_rfl); (case g4 => rw [enc_size, enc_size, round3_len])))
         refine ⟨⟨x + 1, by simp, by omega, ⟨?_⟩⟩, by simp [intOf]; omega⟩
         rw [HV.out]
         have h2 := HLT.out
         have hlt1 := (Array.getElem?_eq_some_iff.1 HR2.out.hN).1
         have hlt2 := HR2.out.hg.lt
         have hlt3 := (Array.getElem?_eq_some_iff.1 HR2.out.ha).1
         have hlt4 := (Array.getElem?_eq_some_iff.1 HR2.out.hk).1
         exact ⟨(setRow_other _ _ _ _ (by omega)).trans ((hb3.block _ hlt1).trans HR2.out.hN), HR2.out.hg.of ((setRow_other _ _ _ _ (by omega)).trans (hb3.block _ hlt2)), setRow_heap _ _ _ _ _ _ ((hb3.block _ hlt3).trans HR2.out.ha), (setRow_other _ _ _ _ (by omega)).trans ((hb3.block _ hlt4).trans HR2.out.hk), below_setRow (HR2.out.hb.trans (Below.mono hb3 HR2.out.hb.size)) (by omega)⟩
        ·obtain rfl : x = 24 := by omega
         go_wp2
         refine ⟨⟨b + 1, ?_, by have := HP.out; omega, ⟨by rw [HBL2.out]; exact HR.out⟩⟩, ?_⟩
         ·have := HP.out
          congr 1
          omega
         ·simp [intOf]; omega
    ·have hpn : p = n := by have h1 := HP.out; have h2 := HYL.out.2.1; omega
     subst hpn
     have hbn : b = p / 136 := by have := HP.out; omega
     obtain ⟨S, hS⟩ : ∃ S, S = bl L b := ⟨_, rfl⟩
     have hSl : S.length = 25 := by rw [hS, bl_len]
     have HR2 : Aside0 (M3 w g ga gk L S wr) := ⟨by rw [hS]; exact HR.out⟩
     have hsum : sum3 l = out3 S 32 := by rw [HYL.out.2.2, hS, hbn]
     have HSM := Aside0.mk hsum
     clear hsum hS HR hbn HYL HLB
     have c5d : decide ((p : Int) < (p : Int)) = false := by simp
     obtain ⟨go, hgo⟩ : ∃ go, go = wr.heap.size := ⟨_, rfl⟩
     have hlo : ga < go ∧ w.heap.size < go := by have h1 := (Array.getElem?_eq_some_iff.1 HR2.out.ha).1; have h2 := (Array.getElem?_eq_some_iff.1 HR2.out.hN).1; omega
     have HGO := Aside0.mk (⟨hgo, hlo⟩ : _ ∧ _)
     have hgo2 : wr.heap.size = go := hgo.symm
     clear hgo hlo
     generalize wr = wq at HR2 HGO hgo2 ⊢
     go_wp2_with (first
      | ((with_reducible refine gate_dst (N := 87) rfl ?_); go_loud (refine wpList_built0 rfl 30 rfl (encI (List.replicate 32 0)) built32 ?_))
      | ((with_reducible refine gate_store (t := 30) rfl ?_); go_loud (refine wpList_store_row rfl 30 (.tmp 11) (.tmp 87) rfl go (encI (List.replicate 32 0)) rfl rfl 30 (encI (List.replicate 32 0)) (h_new HGO.out.1) (by rw [encI_size]; kernel_rfl) rfl (encI_one _) ?_)))
     have HI : Aside0 (OutAt3 w go ga S 0 ((wq.alloc (.cells (encI (List.replicate 32 0)) 30)).setRow go (encI (List.replicate 32 0)))) :=
      ⟨⟨setRow_heap _ _ _ _ _ _ (h_new HGO.out.1), (setRow_other _ _ _ _ (by have := HGO.out; omega)).trans ((h_old (by have := HGO.out; omega)).trans HR2.out.ha), (setRow_other _ _ _ _ (by have := HGO.out; omega)).trans ((h_old (by have := HGO.out; omega)).trans HR2.out.hN), below_setRow (below_alloc HR2.out.hb _) (by have := HGO.out; omega)⟩⟩
     clear HR2
     go_loopw [12] (fun i wr => ∃ x : Nat, i = .int .i64 (x : Int) ∧ x ≤ 32 ∧ Aside0 (OutAt3 w go ga S x wr)) (fun i _ => 32 - (intOf i).toNat)
     case atStart => exact ⟨0, rfl, by omega, HI⟩
     case round =>
      clear HI
      obtain ⟨x, rfl, hx1, HR⟩ := hrel
      by_cases c6 : x < 32
      ·have c6b : (x : Int) < 32 := by omega
       have c6c := eq_true c6b
       obtain ⟨x8, hx8⟩ : ∃ n, n = x / 8 := ⟨_, rfl⟩
       obtain ⟨m8, hm8⟩ : ∃ n, n = x % 8 := ⟨_, rfl⟩
       obtain ⟨s8, hs8⟩ : ∃ n, n = 8 * m8 := ⟨_, rfl⟩
       obtain ⟨r, hr⟩ : ∃ p, p = S.getD (x8 * 5) 0 := ⟨_, rfl⟩
       obtain ⟨z, hz⟩ : ∃ z, z = r >>> s8 := ⟨_, rfl⟩
       have G1 : (x : Int) / 8 = x8 := by omega
       have G2 : (x : Int) % 8 = m8 := by omega
       have G3 : 8 * (m8 : Int) = s8 := by omega
       have k1 : (x8 : Int) < 5 := by omega
       have k2 : (m8 : Int) < 8 := by omega
       have k5 : (s8 : Int) ≤ 64 := by omega
       have G4 : (r.toNat : Int) / 2 ^ s8 = (z.toNat : Int) := by rw [shr_w, hz]
       have hc0 := cell_enc (i := x8 * 5) HR.out.h4 (by omega)
       rw [← hr] at hc0
       have hc2 := cell_encI (i := x) HR.out.ho (by rw [out3_len]; omega)
       have hf2 := frozen_of_row wr go x _ 30 HR.out.ho
       have HQ := Aside0.mk (by rw [out3_s, hz, hr, hs8, hm8, hx8] : out3 S (x + 1) = (out3 S x).set x ((z.toNat : Int) % 256))
       clear hx8 hm8 hs8 hr hz
       go_wp2
       refine ⟨⟨x + 1, by simp, by omega, ⟨⟨?_, ?_, ?_, ?_⟩⟩⟩, by simp [intOf]; omega⟩
       ·rw [HQ.out]
        exact heap_set_encI (i := x) _ HR.out.ho
       ·exact (heap_setCell_other _ _ _ _ (by show _ ≠ go; have := HGO.out; omega)).trans HR.out.h4
       ·exact (heap_setCell_other _ _ _ _ (by show _ ≠ go; have := HGO.out; omega)).trans HR.out.hN
       ·exact below_set HR.out.hb (by have := HGO.out; omega)
      ·obtain rfl : x = 32 := by omega
       obtain ⟨T, hT⟩ : ∃ T, T = out3 S 32 := ⟨_, rfl⟩
       have hTl : T.length = 32 := by rw [hT, out3_len]
       have ho := HR.out.ho
       rw [← hT] at ho
       have HT := Aside0.mk (⟨ho, hT⟩ : _ ∧ _)
       clear ho hT
       go_wp2_with (first
        | ((with_reducible refine gate_dst (N := 104) rfl ?_); go_loud (refine wpList_load_row rfl 30 (.tmp 11) rfl go rfl 30 (encI T) (0, 0) (.array 32 5) ?g0 hu27 rfl ?g1 ?_); (case g0 => exact HT.out.1); (case g1 => rw [encI_size, hTl]; kernel_rfl))
        | ((with_reducible refine gate_store (t := 30) rfl ?_); go_loud (refine wpList_store_row rfl 30 (.tmp 2) (.tmp 104) rfl w.heap.size (encI T) rfl rfl 30 (encI (List.replicate 32 0)) HR.out.hN ?g3 ?g4 (encI_one _) ?_); (case g3 => rw [encI_size, hTl]; kernel_rfl); (case g4 => rw [encI_size, encI_size, hTl]; rfl)))
       refine bodyPost_ret (v := .agg (encI T)) ?_ rfl ⟨by rw [HSM.out, HT.out.2], below_setRow HR.out.hb (Nat.le_refl _)⟩
       exact results_cell_row rfl _ _ w.heap.size 30 _ (0, 0) _ rfl (setRow_heap _ _ _ _ _ _ HR.out.hN) hu27 rfl (by rw [encI_size, hTl]; kernel_rfl)
  ·have c4b : ((m : Int) != 0) = true := by simp; omega
   have c4c : ((m : Int) == 0) = false := by simp; omega
   have c4d : ¬ ((m : Int) = 0) := by omega
   go_wp2_with ((with_reducible refine gate_dst (N := 25) rfl ?_); go_loud (refine u8_one (w0 := w0) (base := w0.heap.size) rfl (.tmp 23) (.tmp 24) rfl _ E 0 rfl rfl HO.out HB.out HB.out.size ?g4 ?_); (case g4 => obtain ⟨g1, g2, g3, g4⟩ := HN.out; omega); intro v2 w2 ho2 hb2; have HO2 := Aside0.mk ho2; have HB2 := Aside0.mk hb2; clear ho2 hb2)
   obtain ⟨g1, g2, g3, g4⟩ := HN.out
   obtain ⟨A2, c2, e2⟩ := Kd.R_slice HO2.out
   refine ⟨⟨x + 1, by omega, ?_, HB2⟩, ?_⟩
   ·rw [show l ++ 6 :: List.replicate (x + 1) (0 : Int) = E ++ [0] by rw [HE.out, List.replicate_succ', List.append_assoc]; rfl]
    exact HO2
   ·rw [e2]
    show l.length + 1 + padN l.length - (E ++ [0]).length < l.length + 1 + padN l.length - n
    rw [List.length_append]
    simp only [List.length_cons, List.length_nil]
    omega
end Go.Proofs.YtanabbjakacgbaaGreatDoor.Sp
namespace Go.Proofs.YtanabbjakacgbaaGreatDoor.Sp
open Go.RowKit
set_option linter.unusedVariables false
set_option maxRecDepth 100000
def cX (p0 p1 p2 p3 p4 p5 p6 p7 p8 p9 p10 p11 p12 p13 p14 p15 p16 p17 p18 p19 p20 p21 p22 p23 p24 : W) : List W := [p0 ^^^ p5 ^^^ p10 ^^^ p15 ^^^ p20, p1 ^^^ p6 ^^^ p11 ^^^ p16 ^^^ p21, p2 ^^^ p7 ^^^ p12 ^^^ p17 ^^^ p22, p3 ^^^ p8 ^^^ p13 ^^^ p18 ^^^ p23, p4 ^^^ p9 ^^^ p14 ^^^ p19 ^^^ p24]
def bX (p0 p1 p2 p3 p4 p5 p6 p7 p8 p9 p10 p11 p12 p13 p14 p15 p16 p17 p18 p19 p20 p21 p22 p23 p24 c0 c1 c2 c3 c4 : W) : List W := [(p0 ^^^ (c4 ^^^ rotl c1 1)), rotl (p6 ^^^ (c0 ^^^ rotl c2 1)) 44, rotl (p12 ^^^ (c1 ^^^ rotl c3 1)) 43, rotl (p18 ^^^ (c2 ^^^ rotl c4 1)) 21, rotl (p24 ^^^ (c3 ^^^ rotl c0 1)) 14, rotl (p3 ^^^ (c2 ^^^ rotl c4 1)) 28, rotl (p9 ^^^ (c3 ^^^ rotl c0 1)) 20, rotl (p10 ^^^ (c4 ^^^ rotl c1 1)) 3, rotl (p16 ^^^ (c0 ^^^ rotl c2 1)) 45, rotl (p22 ^^^ (c1 ^^^ rotl c3 1)) 61, rotl (p1 ^^^ (c0 ^^^ rotl c2 1)) 1, rotl (p7 ^^^ (c1 ^^^ rotl c3 1)) 6, rotl (p13 ^^^ (c2 ^^^ rotl c4 1)) 25, rotl (p19 ^^^ (c3 ^^^ rotl c0 1)) 8, rotl (p20 ^^^ (c4 ^^^ rotl c1 1)) 18, rotl (p4 ^^^ (c3 ^^^ rotl c0 1)) 27, rotl (p5 ^^^ (c4 ^^^ rotl c1 1)) 36, rotl (p11 ^^^ (c0 ^^^ rotl c2 1)) 10, rotl (p17 ^^^ (c1 ^^^ rotl c3 1)) 15, rotl (p23 ^^^ (c2 ^^^ rotl c4 1)) 56, rotl (p2 ^^^ (c1 ^^^ rotl c3 1)) 62, rotl (p8 ^^^ (c2 ^^^ rotl c4 1)) 55, rotl (p14 ^^^ (c3 ^^^ rotl c0 1)) 39, rotl (p15 ^^^ (c4 ^^^ rotl c1 1)) 41, rotl (p21 ^^^ (c0 ^^^ rotl c2 1)) 2]
def eX (b0 b1 b2 b3 b4 b5 b6 b7 b8 b9 b10 b11 b12 b13 b14 b15 b16 b17 b18 b19 b20 b21 b22 b23 b24 : W) : List W := [b0 ^^^ (~~~ b1 &&& b2), b1 ^^^ (~~~ b2 &&& b3), b2 ^^^ (~~~ b3 &&& b4), b3 ^^^ (~~~ b4 &&& b0), b4 ^^^ (~~~ b0 &&& b1), b5 ^^^ (~~~ b6 &&& b7), b6 ^^^ (~~~ b7 &&& b8), b7 ^^^ (~~~ b8 &&& b9), b8 ^^^ (~~~ b9 &&& b5), b9 ^^^ (~~~ b5 &&& b6), b10 ^^^ (~~~ b11 &&& b12), b11 ^^^ (~~~ b12 &&& b13), b12 ^^^ (~~~ b13 &&& b14), b13 ^^^ (~~~ b14 &&& b10), b14 ^^^ (~~~ b10 &&& b11), b15 ^^^ (~~~ b16 &&& b17), b16 ^^^ (~~~ b17 &&& b18), b17 ^^^ (~~~ b18 &&& b19), b18 ^^^ (~~~ b19 &&& b15), b19 ^^^ (~~~ b15 &&& b16), b20 ^^^ (~~~ b21 &&& b22), b21 ^^^ (~~~ b22 &&& b23), b22 ^^^ (~~~ b23 &&& b24), b23 ^^^ (~~~ b24 &&& b20), b24 ^^^ (~~~ b20 &&& b21)]
theorem shr_64 (x : W) : x >>> 64 = 0 := by
 apply BitVec.eq_of_toNat_eq
 rw [BitVec.toNat_ushiftRight, Nat.shiftRight_eq_div_pow]
 exact Nat.div_eq_of_lt x.isLt
theorem rotl_0 (x : W) : rotl x 0 = x := by
 unfold rotl
 rw [show 64 - 0 = 64 from rfl, shr_64]
 simp
theorem zx (x : W) : (0 : W) ^^^ x = x := by simp
theorem c1_x (p0 p1 p2 p3 p4 p5 p6 p7 p8 p9 p10 p11 p12 p13 p14 p15 p16 p17 p18 p19 p20 p21 p22 p23 p24 : W) : c1 [p0, p1, p2, p3, p4, p5, p6, p7, p8, p9, p10, p11, p12, p13, p14, p15, p16, p17, p18, p19, p20, p21, p22, p23, p24] 25 = cX p0 p1 p2 p3 p4 p5 p6 p7 p8 p9 p10 p11 p12 p13 p14 p15 p16 p17 p18 p19 p20 p21 p22 p23 p24 := by
 have h : c1 [p0, p1, p2, p3, p4, p5, p6, p7, p8, p9, p10, p11, p12, p13, p14, p15, p16, p17, p18, p19, p20, p21, p22, p23, p24] 25 = [0 ^^^ p0 ^^^ p5 ^^^ p10 ^^^ p15 ^^^ p20, 0 ^^^ p1 ^^^ p6 ^^^ p11 ^^^ p16 ^^^ p21, 0 ^^^ p2 ^^^ p7 ^^^ p12 ^^^ p17 ^^^ p22, 0 ^^^ p3 ^^^ p8 ^^^ p13 ^^^ p18 ^^^ p23, 0 ^^^ p4 ^^^ p9 ^^^ p14 ^^^ p19 ^^^ p24] := by kernel_rfl
 rw [h]
 simp only [zx]
 rfl
theorem turnsL_x : turnsL = [0, 1, 62, 28, 27, 36, 44, 6, 55, 20, 3, 10, 43, 25, 39, 41, 45, 15, 21, 8, 18, 2, 61, 56, 14] := by kernel_rfl
theorem b1_x (p0 p1 p2 p3 p4 p5 p6 p7 p8 p9 p10 p11 p12 p13 p14 p15 p16 p17 p18 p19 p20 p21 p22 p23 p24 c0 c1 c2 c3 c4 : W) : b1 [p0, p1, p2, p3, p4, p5, p6, p7, p8, p9, p10, p11, p12, p13, p14, p15, p16, p17, p18, p19, p20, p21, p22, p23, p24] [c0, c1, c2, c3, c4] turnsL 25 = bX p0 p1 p2 p3 p4 p5 p6 p7 p8 p9 p10 p11 p12 p13 p14 p15 p16 p17 p18 p19 p20 p21 p22 p23 p24 c0 c1 c2 c3 c4 := by
 rw [turnsL_x]
 have h : b1 [p0, p1, p2, p3, p4, p5, p6, p7, p8, p9, p10, p11, p12, p13, p14, p15, p16, p17, p18, p19, p20, p21, p22, p23, p24] [c0, c1, c2, c3, c4] [0, 1, 62, 28, 27, 36, 44, 6, 55, 20, 3, 10, 43, 25, 39, 41, 45, 15, 21, 8, 18, 2, 61, 56, 14] 25 = [rotl (p0 ^^^ (c4 ^^^ rotl c1 1)) 0, rotl (p6 ^^^ (c0 ^^^ rotl c2 1)) 44, rotl (p12 ^^^ (c1 ^^^ rotl c3 1)) 43, rotl (p18 ^^^ (c2 ^^^ rotl c4 1)) 21, rotl (p24 ^^^ (c3 ^^^ rotl c0 1)) 14, rotl (p3 ^^^ (c2 ^^^ rotl c4 1)) 28, rotl (p9 ^^^ (c3 ^^^ rotl c0 1)) 20, rotl (p10 ^^^ (c4 ^^^ rotl c1 1)) 3, rotl (p16 ^^^ (c0 ^^^ rotl c2 1)) 45, rotl (p22 ^^^ (c1 ^^^ rotl c3 1)) 61, rotl (p1 ^^^ (c0 ^^^ rotl c2 1)) 1, rotl (p7 ^^^ (c1 ^^^ rotl c3 1)) 6, rotl (p13 ^^^ (c2 ^^^ rotl c4 1)) 25, rotl (p19 ^^^ (c3 ^^^ rotl c0 1)) 8, rotl (p20 ^^^ (c4 ^^^ rotl c1 1)) 18, rotl (p4 ^^^ (c3 ^^^ rotl c0 1)) 27, rotl (p5 ^^^ (c4 ^^^ rotl c1 1)) 36, rotl (p11 ^^^ (c0 ^^^ rotl c2 1)) 10, rotl (p17 ^^^ (c1 ^^^ rotl c3 1)) 15, rotl (p23 ^^^ (c2 ^^^ rotl c4 1)) 56, rotl (p2 ^^^ (c1 ^^^ rotl c3 1)) 62, rotl (p8 ^^^ (c2 ^^^ rotl c4 1)) 55, rotl (p14 ^^^ (c3 ^^^ rotl c0 1)) 39, rotl (p15 ^^^ (c4 ^^^ rotl c1 1)) 41, rotl (p21 ^^^ (c0 ^^^ rotl c2 1)) 2] := by kernel_rfl
 rw [h]
 simp only [rotl_0]
 rfl
theorem a1_x (p0 p1 p2 p3 p4 p5 p6 p7 p8 p9 p10 p11 p12 p13 p14 p15 p16 p17 p18 p19 p20 p21 p22 p23 p24 b0 b1 b2 b3 b4 b5 b6 b7 b8 b9 b10 b11 b12 b13 b14 b15 b16 b17 b18 b19 b20 b21 b22 b23 b24 : W) : a1 [p0, p1, p2, p3, p4, p5, p6, p7, p8, p9, p10, p11, p12, p13, p14, p15, p16, p17, p18, p19, p20, p21, p22, p23, p24] [b0, b1, b2, b3, b4, b5, b6, b7, b8, b9, b10, b11, b12, b13, b14, b15, b16, b17, b18, b19, b20, b21, b22, b23, b24] 25 = eX b0 b1 b2 b3 b4 b5 b6 b7 b8 b9 b10 b11 b12 b13 b14 b15 b16 b17 b18 b19 b20 b21 b22 b23 b24 := by kernel_rfl
def tr (a : List W) : List W := (List.range 25).map fun i => a.getD (i / 5 + 5 * (i % 5)) 0
theorem rc_x (p0 p1 p2 p3 p4 p5 p6 p7 p8 p9 p10 p11 p12 p13 p14 p15 p16 p17 p18 p19 p20 p21 p22 p23 p24 : W) : rc (tr [p0, p1, p2, p3, p4, p5, p6, p7, p8, p9, p10, p11, p12, p13, p14, p15, p16, p17, p18, p19, p20, p21, p22, p23, p24]) 5 = cX p0 p1 p2 p3 p4 p5 p6 p7 p8 p9 p10 p11 p12 p13 p14 p15 p16 p17 p18 p19 p20 p21 p22 p23 p24 := by kernel_rfl
theorem rda_x (p0 p1 p2 p3 p4 p5 p6 p7 p8 p9 p10 p11 p12 p13 p14 p15 p16 p17 p18 p19 p20 p21 p22 p23 p24 c0 c1 c2 c3 c4 : W) : rda (tr [p0, p1, p2, p3, p4, p5, p6, p7, p8, p9, p10, p11, p12, p13, p14, p15, p16, p17, p18, p19, p20, p21, p22, p23, p24]) [c0, c1, c2, c3, c4] 5 = tr [p0 ^^^ (c4 ^^^ rotl c1 1), p1 ^^^ (c0 ^^^ rotl c2 1), p2 ^^^ (c1 ^^^ rotl c3 1), p3 ^^^ (c2 ^^^ rotl c4 1), p4 ^^^ (c3 ^^^ rotl c0 1), p5 ^^^ (c4 ^^^ rotl c1 1), p6 ^^^ (c0 ^^^ rotl c2 1), p7 ^^^ (c1 ^^^ rotl c3 1), p8 ^^^ (c2 ^^^ rotl c4 1), p9 ^^^ (c3 ^^^ rotl c0 1), p10 ^^^ (c4 ^^^ rotl c1 1), p11 ^^^ (c0 ^^^ rotl c2 1), p12 ^^^ (c1 ^^^ rotl c3 1), p13 ^^^ (c2 ^^^ rotl c4 1), p14 ^^^ (c3 ^^^ rotl c0 1), p15 ^^^ (c4 ^^^ rotl c1 1), p16 ^^^ (c0 ^^^ rotl c2 1), p17 ^^^ (c1 ^^^ rotl c3 1), p18 ^^^ (c2 ^^^ rotl c4 1), p19 ^^^ (c3 ^^^ rotl c0 1), p20 ^^^ (c4 ^^^ rotl c1 1), p21 ^^^ (c0 ^^^ rotl c2 1), p22 ^^^ (c1 ^^^ rotl c3 1), p23 ^^^ (c2 ^^^ rotl c4 1), p24 ^^^ (c3 ^^^ rotl c0 1)] := by kernel_rfl
theorem rho_x (p0 p1 p2 p3 p4 p5 p6 p7 p8 p9 p10 p11 p12 p13 p14 p15 p16 p17 p18 p19 p20 p21 p22 p23 p24 : W) : rho (tr [p0, p1, p2, p3, p4, p5, p6, p7, p8, p9, p10, p11, p12, p13, p14, p15, p16, p17, p18, p19, p20, p21, p22, p23, p24]) = tr [p0, rotl p1 1, rotl p2 62, rotl p3 28, rotl p4 27, rotl p5 36, rotl p6 44, rotl p7 6, rotl p8 55, rotl p9 20, rotl p10 3, rotl p11 10, rotl p12 43, rotl p13 25, rotl p14 39, rotl p15 41, rotl p16 45, rotl p17 15, rotl p18 21, rotl p19 8, rotl p20 18, rotl p21 2, rotl p22 61, rotl p23 56, rotl p24 14] := by kernel_rfl
theorem rb_x (p0 p1 p2 p3 p4 p5 p6 p7 p8 p9 p10 p11 p12 p13 p14 p15 p16 p17 p18 p19 p20 p21 p22 p23 p24 : W) : rb (tr [p0, p1, p2, p3, p4, p5, p6, p7, p8, p9, p10, p11, p12, p13, p14, p15, p16, p17, p18, p19, p20, p21, p22, p23, p24]) 5 = tr [p0, p6, p12, p18, p24, p3, p9, p10, p16, p22, p1, p7, p13, p19, p20, p4, p5, p11, p17, p23, p2, p8, p14, p15, p21] := by kernel_rfl
theorem rx_x (p0 p1 p2 p3 p4 p5 p6 p7 p8 p9 p10 p11 p12 p13 p14 p15 p16 p17 p18 p19 p20 p21 p22 p23 p24 b0 b1 b2 b3 b4 b5 b6 b7 b8 b9 b10 b11 b12 b13 b14 b15 b16 b17 b18 b19 b20 b21 b22 b23 b24 : W) : rx (tr [b0, b1, b2, b3, b4, b5, b6, b7, b8, b9, b10, b11, b12, b13, b14, b15, b16, b17, b18, b19, b20, b21, b22, b23, b24]) (tr [p0, p1, p2, p3, p4, p5, p6, p7, p8, p9, p10, p11, p12, p13, p14, p15, p16, p17, p18, p19, p20, p21, p22, p23, p24]) 5 = tr (eX b0 b1 b2 b3 b4 b5 b6 b7 b8 b9 b10 b11 b12 b13 b14 b15 b16 b17 b18 b19 b20 b21 b22 b23 b24) := by kernel_rfl
theorem set0_x (p0 p1 p2 p3 p4 p5 p6 p7 p8 p9 p10 p11 p12 p13 p14 p15 p16 p17 p18 p19 p20 p21 p22 p23 p24 k : W) : (tr [p0, p1, p2, p3, p4, p5, p6, p7, p8, p9, p10, p11, p12, p13, p14, p15, p16, p17, p18, p19, p20, p21, p22, p23, p24]).set 0 ((tr [p0, p1, p2, p3, p4, p5, p6, p7, p8, p9, p10, p11, p12, p13, p14, p15, p16, p17, p18, p19, p20, p21, p22, p23, p24]).getD 0 0 ^^^ k) = tr ([p0, p1, p2, p3, p4, p5, p6, p7, p8, p9, p10, p11, p12, p13, p14, p15, p16, p17, p18, p19, p20, p21, p22, p23, p24].set 0 ([p0, p1, p2, p3, p4, p5, p6, p7, p8, p9, p10, p11, p12, p13, p14, p15, p16, p17, p18, p19, p20, p21, p22, p23, p24].getD 0 0 ^^^ k)) := by kernel_rfl
theorem round_eq : ∀ (a : List W) (k : W), a.length = 25 → round3 (tr a) k = tr (roundL a turnsL k)
 | [p0, p1, p2, p3, p4, p5, p6, p7, p8, p9, p10, p11, p12, p13, p14, p15, p16, p17, p18, p19, p20, p21, p22, p23, p24], k, _ => by
  rw [round3, theta, rc_x]
  unfold cX
  rw [rda_x, rho_x, chi, rb_x, rx_x]
  unfold eX
  rw [set0_x, roundL, c1_x]
  unfold cX
  rw [b1_x]
  unfold bX
  rw [a1_x]
  rfl
end Go.Proofs.YtanabbjakacgbaaGreatDoor.Sp
namespace Go.Proofs.YtanabbjakacgbaaGreatDoor.Sp
open Go.RowKit
set_option linter.unusedVariables false
theorem tr_len (a : List W) : (tr a).length = 25 := by simp [tr]
theorem tr_at (a : List W) (i : Nat) (h : i < 25) : (tr a)[i]? = some (a.getD (i / 5 + 5 * (i % 5)) 0) := by
 rw [tr, List.getElem?_map, List.getElem?_range h]
 rfl
theorem tr_get (a : List W) (j : Nat) (h : j < 25) : (tr a).getD (j % 5 * 5 + j / 5) 0 = a.getD j 0 := by
 rw [List.getD_eq_getElem?_getD, tr_at a _ (by omega), show (j % 5 * 5 + j / 5) / 5 + 5 * ((j % 5 * 5 + j / 5) % 5) = j by omega]
 rfl
theorem getD_set (a : List W) (j i : Nat) (v : W) (hj : j < a.length) : (a.set j v).getD i 0 = if j = i then v else a.getD i 0 := by
 rw [List.getD_eq_getElem?_getD, List.getElem?_set]
 by_cases h : j = i
 ·subst h; simp [hj]
 ·rw [if_neg h, if_neg h, List.getD_eq_getElem?_getD]
theorem tr_set (a : List W) (ha : a.length = 25) (j : Nat) (hj : j < 25) (v : W) : tr (a.set j v) = (tr a).set (j % 5 * 5 + j / 5) v := by
 apply List.ext_getElem?
 intro i
 by_cases hi : i < 25
 ·rw [tr_at _ i hi, List.getElem?_set, tr_at _ i hi, getD_set _ _ _ _ (by omega), tr_len]
  by_cases h : j = i / 5 + 5 * (i % 5)
  ·rw [if_pos h, if_pos (by omega), if_pos (by omega)]
  ·rw [if_neg h, if_neg (by omega)]
 ·rw [List.getElem?_eq_none (by rw [tr_len]; omega), List.getElem?_eq_none (by rw [List.length_set, tr_len]; omega)]
theorem bit_small (y : W) (h : y.toNat < 256) (i : Nat) (hi : 8 ≤ i) : y.getLsbD i = false := by
 show y.toNat.testBit i = false
 apply Nat.testBit_lt_two_pow
 exact Nat.lt_of_lt_of_le h (by rw [show 256 = 2 ^ 8 from rfl]; exact Nat.pow_le_pow_right (by decide) hi)
theorem or8 (x y : W) (h : y.toNat < 256) : (x <<< 8) ||| y = (x <<< 8) ^^^ y := by
 apply BitVec.eq_of_getLsbD_eq
 intro i hi
 rw [BitVec.getLsbD_or, BitVec.getLsbD_xor, BitVec.getLsbD_shiftLeft]
 by_cases h8 : i < 8
 ·simp [h8]
 ·rw [bit_small y h i (by omega)]
  simp
theorem byte_lt (b : Int) (h0 : 0 ≤ b) (h1 : b < 256) : (BitVec.ofNat 64 b.toNat).toNat < 256 := by
 rw [BitVec.toNat_ofNat]; omega
theorem xor8 (x t0 t1 t2 t3 t4 t5 t6 t7 : W) : x ^^^ t0 ^^^ t1 ^^^ t2 ^^^ t3 ^^^ t4 ^^^ t5 ^^^ t6 ^^^ t7 = x ^^^ (t7 ^^^ t6 ^^^ t5 ^^^ t4 ^^^ t3 ^^^ t2 ^^^ t1 ^^^ t0) := by
 apply BitVec.eq_of_getLsbD_eq
 intro i hi
 simp only [BitVec.getLsbD_xor]
 have h : ∀ b0 b1 b2 b3 b4 b5 b6 b7 b8 : Bool, (b8 ^^ b0 ^^ b1 ^^ b2 ^^ b3 ^^ b4 ^^ b5 ^^ b6 ^^ b7) = (b8 ^^ (b7 ^^ b6 ^^ b5 ^^ b4 ^^ b3 ^^ b2 ^^ b1 ^^ b0)) := by decide
 exact h _ _ _ _ _ _ _ _ _
def by_ (L : List Int) (i : Nat) : W := BitVec.ofNat 64 (L.getD i 0).toNat
theorem by_lt (L : List Int) (hL : ∀ b ∈ L, 0 ≤ b ∧ b < 256) (i : Nat) : (by_ L i).toNat < 256 := by
 unfold by_
 by_cases h : i < L.length
 ·rw [List.getD_eq_getElem?_getD, List.getElem?_eq_getElem h]
  have := hL _ (List.getElem_mem h)
  exact byte_lt _ this.1 this.2
 ·rw [List.getD_eq_getElem?_getD, List.getElem?_eq_none (by omega)]
  decide
theorem word8 (L : List Int) (hL : ∀ b ∈ L, 0 ≤ b ∧ b < 256) (p : Nat) (x : W) :
  x ^^^ (by_ L p <<< (8 * 0)) ^^^ (by_ L (p + 1) <<< (8 * 1)) ^^^ (by_ L (p + 2) <<< (8 * 2)) ^^^ (by_ L (p + 3) <<< (8 * 3)) ^^^ (by_ L (p + 4) <<< (8 * 4)) ^^^ (by_ L (p + 5) <<< (8 * 5)) ^^^ (by_ L (p + 6) <<< (8 * 6)) ^^^ (by_ L (p + 7) <<< (8 * 7)) = x ^^^ leF L p 8 := by
 have hs : ∀ j, leF L p (j + 1) = (leF L p j <<< 8) ^^^ by_ L (p + (7 - j)) := fun j => by rw [leF_s, ← or8 _ _ (by_lt L hL _)]; rfl
 have h0 : leF L p 0 = 0 := by rw [leF]
 rw [show leF L p 8 = (leF L p 7 <<< 8) ^^^ by_ L (p + 0) from hs 7, hs 6, hs 5, hs 4, hs 3, hs 2, hs 1, hs 0, h0]
 simp only [BitVec.shiftLeft_xor_distrib, ← BitVec.shiftLeft_add, Nat.reduceAdd, Nat.reduceSub, Nat.reduceMul, BitVec.shiftLeft_zero, Nat.add_zero]
 simp only [BitVec.zero_shiftLeft, BitVec.zero_xor, BitVec.ofNat_eq_ofNat]
 generalize by_ L p = t0
 generalize by_ L (p + 1) <<< 8 = t1
 generalize by_ L (p + 2) <<< 16 = t2
 generalize by_ L (p + 3) <<< 24 = t3
 generalize by_ L (p + 4) <<< 32 = t4
 generalize by_ L (p + 5) <<< 40 = t5
 generalize by_ L (p + 6) <<< 48 = t6
 generalize by_ L (p + 7) <<< 56 = t7
 exact xor8 x t0 t1 t2 t3 t4 t5 t6 t7
theorem sip_s (a : List W) (l : List Int) (i : Nat) : sip a l (i + 1) = (sip a l i).set (i / 8) ((sip a l i).getD (i / 8) 0 ^^^ (by_ l i <<< (8 * (i % 8)))) := by rw [sip]; rfl
theorem getD_same (a : List W) (j : Nat) (v : W) (h : j < a.length) : (a.set j v).getD j 0 = v := by rw [getD_set _ _ _ _ h, if_pos rfl]
theorem step2 (a : List W) (j : Nat) (u v : W) (h : j < a.length) : (a.set j u).set j ((a.set j u).getD j 0 ^^^ v) = a.set j (u ^^^ v) := by
 rw [getD_same _ _ _ h, List.set_set]
theorem sip8 (a : List W) (l : List Int) (hl : ∀ b ∈ l, 0 ≤ b ∧ b < 256) (j : Nat) (h : j < a.length) : sip a l (8 * j + 8) = (sip a l (8 * j)).set j ((sip a l (8 * j)).getD j 0 ^^^ leF l (8 * j) 8) := by
 have hz : j < (sip a l (8 * j)).length := by rw [sip_len]; exact h
 have e : ∀ r, r < 8 → sip a l (8 * j + r + 1) = (sip a l (8 * j + r)).set j ((sip a l (8 * j + r)).getD j 0 ^^^ (by_ l (8 * j + r) <<< (8 * r))) := fun r hr => by
  rw [sip_s, show (8 * j + r) / 8 = j by omega, show (8 * j + r) % 8 = r by omega]
 rw [show 8 * j + 8 = 8 * j + 7 + 1 from rfl, e 7 (by decide), show 8 * j + 7 = 8 * j + 6 + 1 from rfl, e 6 (by decide), show 8 * j + 6 = 8 * j + 5 + 1 from rfl, e 5 (by decide), show 8 * j + 5 = 8 * j + 4 + 1 from rfl, e 4 (by decide),
  show 8 * j + 4 = 8 * j + 3 + 1 from rfl, e 3 (by decide), show 8 * j + 3 = 8 * j + 2 + 1 from rfl, e 2 (by decide), show 8 * j + 2 = 8 * j + 1 + 1 from rfl, e 1 (by decide), show 8 * j + 1 = 8 * j + 0 + 1 from rfl, e 0 (by decide), Nat.add_zero]
 rw [step2 _ _ _ _ hz, step2 _ _ _ _ hz, step2 _ _ _ _ hz, step2 _ _ _ _ hz, step2 _ _ _ _ hz, step2 _ _ _ _ hz, step2 _ _ _ _ hz]
 rw [word8 l hl]
theorem sip_ab (a : List W) (ha : a.length = 25) (l L : List Int) (p : Nat) (hl : ∀ b ∈ l, 0 ≤ b ∧ b < 256) (hw : ∀ i, i < 136 → l.getD i 0 = L.getD (p + i) 0) : ∀ j, j ≤ 17 → tr (sip a l (8 * j)) = ab L p (tr a) j := by
 intro j
 induction j with
 | zero => intro _; rw [ab_0]; rfl
 | succ j ih =>
  intro hj
  have hle : leF l (8 * j) 8 = leF L (p + 8 * j) 8 := by
   have : ∀ r, r ≤ 8 → leF l (8 * j) r = leF L (p + 8 * j) r := by
    intro r
    induction r with
    | zero => intro _; rw [leF, leF]
    | succ r ihr =>
     intro hr
     rw [leF_s, leF_s, ihr (by omega), hw (8 * j + (7 - r)) (by omega), Nat.add_assoc]
   exact this 8 (Nat.le_refl _)
  rw [show 8 * (j + 1) = 8 * j + 8 from rfl, sip8 a l hl j (by omega), tr_set _ (by rw [sip_len, ha]) j (by omega), ab_s, ← ih (by omega), tr_get _ j (by omega), hle]
theorem rounds_rr (a : List W) (ha : a.length = 25) : ∀ i, tr (roundsL a turnsL i) = rr (tr a) i := by
 intro i
 induction i with
 | zero => rw [rr_0]; rfl
 | succ i ih => rw [rr_s, ← ih, round_eq _ _ (by rw [roundsL_len, ha])]; rfl
theorem mix_eq (a : List W) (ha : a.length = 25) (l L : List Int) (p : Nat) (hn : l.length = 136) (hl : ∀ b ∈ l, 0 ≤ b ∧ b < 256) (hw : ∀ i, i < 136 → l.getD i 0 = L.getD (p + i) 0) : tr (mixL a turnsL l) = rr (ab L p (tr a) 17) 24 := by
 rw [mixL, rounds_rr _ (by rw [sip_len, ha]), hn, ← sip_ab a ha l L p hl hw 17 (Nat.le_refl _)]
end Go.Proofs.YtanabbjakacgbaaGreatDoor.Sp
namespace Go.Proofs.YtanabbjakacgbaaGreatDoor.Sp
open Go.RowKit
set_option linter.unusedVariables false
theorem getD_drop (l : List Int) (p i : Nat) : (l.drop p).getD i 0 = l.getD (p + i) 0 := by
 rw [List.getD_eq_getElem?_getD, List.getElem?_drop, List.getD_eq_getElem?_getD]
theorem getD_take (l : List Int) (n i : Nat) (h : i < n) : (l.take n).getD i 0 = l.getD i 0 := by
 rw [List.getD_eq_getElem?_getD, List.getElem?_take, if_pos h, List.getD_eq_getElem?_getD]
theorem getD_app_l (l r : List Int) (i : Nat) (h : i < l.length) : (l ++ r).getD i 0 = l.getD i 0 := by
 rw [List.getD_eq_getElem?_getD, List.getElem?_append_left h, List.getD_eq_getElem?_getD]
theorem getD_app_r (l r : List Int) (i : Nat) (h : l.length ≤ i) : (l ++ r).getD i 0 = r.getD (i - l.length) 0 := by
 rw [List.getD_eq_getElem?_getD, List.getElem?_append_right h, List.getD_eq_getElem?_getD]
theorem getD_setI (a : List Int) (j i : Nat) (v : Int) (hj : j < a.length) : (a.set j v).getD i 0 = if j = i then v else a.getD i 0 := by
 rw [List.getD_eq_getElem?_getD, List.getElem?_set]
 by_cases h : j = i
 ·subst h; simp [hj]
 ·rw [if_neg h, if_neg h, List.getD_eq_getElem?_getD]
theorem getD_rep (n i : Nat) : (List.replicate n (0 : Int)).getD i 0 = 0 := by
 rw [List.getD_eq_getElem?_getD, List.getElem?_replicate]
 split <;> rfl
theorem getD_cons6 (n i : Nat) : (6 :: List.replicate n (0 : Int)).getD i 0 = if i = 0 then 6 else 0 := by
 rcases i with _ | i
 ·rfl
 ·show (List.replicate n (0 : Int)).getD i 0 = _
  rw [getD_rep, if_neg (by omega)]
theorem padN_lt (n : Nat) : padN n < 136 ∧ (n + 1 + padN n) % 136 = 0 := by unfold padN; omega
theorem pad_get (l : List Int) (i : Nat) : (l ++ 6 :: List.replicate (padN l.length) 0).getD i 0 = if i < l.length then l.getD i 0 else if i = l.length then 6 else 0 := by
 by_cases h : i < l.length
 ·rw [if_pos h, getD_app_l _ _ _ h]
 ·rw [if_neg h, getD_app_r _ _ _ (by omega), getD_cons6]
  by_cases h2 : i = l.length
  ·rw [if_pos (by omega), if_pos h2]
  ·rw [if_neg (by omega), if_neg h2]
theorem end_get (r : List Int) (hr : r.length < 136) (i : Nat) (hi : i < 136) : ((r ++ List.replicate (136 - r.length) 0).set r.length 6).getD i 0 = if i < r.length then r.getD i 0 else if i = r.length then 6 else 0 := by
 rw [getD_setI _ _ _ _ (by simp; omega)]
 by_cases h2 : r.length = i
 ·rw [if_pos h2, if_neg (by omega), if_pos h2.symm]
 ·rw [if_neg h2]
  by_cases h : i < r.length
  ·rw [if_pos h, getD_app_l _ _ _ h]
  ·rw [if_neg h, if_neg (by omega), getD_app_r _ _ _ (by omega), getD_rep]
theorem padL_get (l : List Int) (i : Nat) (h : i + 1 < l.length + 1 + padN l.length) : (padL l).getD i 0 = if i < l.length then l.getD i 0 else if i = l.length then 6 else 0 := by
 unfold padL
 rw [getD_setI _ _ _ _ (by simp), if_neg (by simp; omega), pad_get]
theorem pad_block (l : List Int) (x : Nat) (hx : 136 * (x + 1) ≤ l.length) (i : Nat) (hi : i < 136) : ((l.drop (136 * x)).take 136).getD i 0 = (padL l).getD (136 * x + i) 0 := by
 rw [getD_take _ _ _ hi, getD_drop, padL_get _ _ (by omega), if_pos (by omega)]
theorem pad_last (l : List Int) (i : Nat) (hi : i < 136) : (endL (l.drop (136 * (l.length / 136)))).getD i 0 = (padL l).getD (136 * (l.length / 136) + i) 0 := by
 have hp := padN_lt l.length
 have hrl : (l.drop (136 * (l.length / 136))).length = l.length % 136 := by rw [List.length_drop]; omega
 have hr : (l.drop (136 * (l.length / 136))).length < 136 := by omega
 have key : ∀ i, i < 136 → (((l.drop (136 * (l.length / 136))) ++ List.replicate (136 - (l.drop (136 * (l.length / 136))).length) 0).set (l.drop (136 * (l.length / 136))).length 6).getD i 0 = (l ++ 6 :: List.replicate (padN l.length) 0).getD (136 * (l.length / 136) + i) 0 := by
  intro i hi
  rw [end_get _ hr i hi, pad_get, hrl, getD_drop]
  have c1 : (136 * (l.length / 136) + i < l.length) ↔ (i < l.length % 136) := by omega
  have c2 : (136 * (l.length / 136) + i = l.length) ↔ (i = l.length % 136) := by omega
  simp only [c1, c2]
 have hlen : (l ++ 6 :: List.replicate (padN l.length) 0).length = l.length + 1 + padN l.length := by simp; omega
 have e1 : ∀ r : List Int, endL r = (((r ++ List.replicate (136 - r.length) 0).set r.length 6)).set 135 ((((r ++ List.replicate (136 - r.length) 0).set r.length 6).getD 135 0 + 128) % 256) := fun _ => rfl
 have e2 : padL l = (l ++ 6 :: List.replicate (padN l.length) 0).set ((l ++ 6 :: List.replicate (padN l.length) 0).length - 1) (((l ++ 6 :: List.replicate (padN l.length) 0).getD ((l ++ 6 :: List.replicate (padN l.length) 0).length - 1) 0 + 128) % 256) := rfl
 have hl2 : ((l.drop (136 * (l.length / 136)) ++ List.replicate (136 - (l.drop (136 * (l.length / 136))).length) (0 : Int)).set (l.drop (136 * (l.length / 136))).length 6).length = 136 := by simp; omega
 rw [e1, e2]
 generalize hE : (l.drop (136 * (l.length / 136)) ++ List.replicate (136 - (l.drop (136 * (l.length / 136))).length) (0 : Int)).set (l.drop (136 * (l.length / 136))).length 6 = E at key hl2 ⊢
 generalize hF : l ++ 6 :: List.replicate (padN l.length) 0 = F at key hlen ⊢
 rw [hlen, getD_setI _ _ _ _ (by omega), getD_setI _ _ _ _ (by omega), key 135 (by decide), key i hi, show 136 * (l.length / 136) + 135 = l.length + 1 + padN l.length - 1 by omega]
 by_cases h : 135 = i
 ·rw [if_pos h, if_pos (by omega)]
 ·rw [if_neg h, if_neg (by omega)]
theorem tr_zero : tr (List.replicate 25 0) = List.replicate 25 0 := by kernel_rfl
theorem eat_bl (l : List Int) (hl : ∀ b ∈ l, 0 ≤ b ∧ b < 256) : ∀ x, x ≤ l.length / 136 → tr (eat l x).1 = bl (padL l) x := by
 intro x
 induction x with
 | zero => intro _; rw [bl_0, eat]; exact tr_zero
 | succ x ih =>
  intro hx
  have h1 : 136 * (x + 1) ≤ l.length := by omega
  rw [bl_s, ← ih (by omega), eat_s1, eat_2]
  exact mix_eq _ (eat_1 l x) _ _ _ (by rw [List.length_take, List.length_drop]; omega) (fun b hb => hl b (List.mem_of_mem_drop (List.mem_of_mem_take hb))) (fun i hi => pad_block l x h1 i hi)
theorem last_eq (l : List Int) (hl : ∀ b ∈ l, 0 ≤ b ∧ b < 256) : tr (lastL l) = bl (padL l) ((padL l).length / 136) := by
 have hp := padN_lt l.length
 have hr : (l.drop (136 * (l.length / 136))).length < 136 := by rw [List.length_drop]; omega
 rw [padL_len, show (l.length + 1 + padN l.length) / 136 = l.length / 136 + 1 by omega, bl_s, ← eat_bl l hl _ (Nat.le_refl _), lastL, eat_2]
 exact mix_eq _ (eat_1 l _) _ _ _ (endL_len _ hr) (endL_ok _ (fun b hb => hl b (List.mem_of_mem_drop hb))) (fun i hi => pad_last l i hi)
theorem out_eq (S : List W) : ∀ i, i ≤ 32 → outF S i = out3 (tr S) i := by
 intro i
 induction i with
 | zero => intro _; rfl
 | succ i ih =>
  intro hi
  have h := tr_get S (i / 8) (by omega)
  rw [show i / 8 % 5 * 5 + i / 8 / 5 = i / 8 * 5 by omega] at h
  rw [out3_s, outF, ih (by omega), h]
theorem sum_eq (l : List Int) (hl : ∀ b ∈ l, 0 ≤ b ∧ b < 256) : sum3 l = sumL l := by
 rw [sum3, sumL, ← last_eq l hl, out_eq _ 32 (Nat.le_refl _)]
end Go.Proofs.YtanabbjakacgbaaGreatDoor.Sp
namespace Go.Proofs.YtanabbjakacgbaaGreatDoor.PM
open Go.RowKit Go.Proofs.YtanabbjakacgbaaGreatDoorW.PrintWords Go.Proofs.YtanabbjakacgbaaGreatDoorW.PrintLast Go.Proofs.YtanabbjakacgbaaGreatDoorW.PrintMore
attribute [local go_sem] max2_int min2_int max_two min_two max_three min_three max_four min_four
set_option linter.unusedVariables false
set_option linter.unusedSimpArgs false
def errW : Option Int → Value
 | none => .nilIface
 | some c => .iface 0 (.int .i64 c)
theorem errW_none : errW none = .nilIface := rfl
theorem errW_some (c : Int) : errW (some c) = .iface 0 (.int .i64 c) := rfl
theorem isSome_cell?_setCell (w : World) (a b : Addr) (v : Value) : ((w.setCell a v).cell? b).isSome = (w.cell? b).isSome := by
 by_cases h : a = b
 ·subst h
  cases hc : w.cell? a with
  | some u => rw [World.cell?_setCell_same (w := w) (a := a) (v := v) hc]; rfl
  | none =>
   unfold World.cell? at hc ⊢
   simp only [World.setCell, Array.getElem?_modify, if_true]
   cases hb : w.heap[a.block]? with
   | none => simp
   | some o =>
    rw [hb] at hc
    cases o <;> simp_all
 ·rw [World.cell?_setCell_other (w := w) (a := a) (b := b) (v := v) h]
attribute [go_sem] isSome_cell?_setCell
theorem aside0_iff (p : Prop) : Aside0 p ↔ p := ⟨fun h => h.out, fun h => ⟨h⟩⟩
theorem info5 : (Tryz.prog.info? 5).map (fun i => (i.zero, i.size, i.bytes)) = some (some (.int .u8 0), 1, 1) := by kernel_rfl
def rd_L1 (xs : List (List Int)) (i : Int) : (List Int) := xs.getD i.toNat ([] : List Int)
theorem at_L1 {w : World} {A : Option Addr} {n : Nat} {xs : List (List Int)} (h : Kd.C (Kd.slice 5 (Kd.int .u8)) w A n xs) (i : Int) (h0 : 0 ≤ i) (h1 : i < n) : ∃ ad A0 c0, A = some ad ∧ w.cell? (ad.add i.toNat) = some (.slice A0 (rd_L1 xs i).length c0) ∧ (rd_L1 xs i).length ≤ c0 ∧ (Kd.int .u8).C w A0 (rd_L1 xs i).length (rd_L1 xs i) := by
 obtain ⟨ad, c, e, _, hK, hc0⟩ := Kd.C_get h ([] : List Int) i h0 h1
 have hc : ∀ j u, c[j]? = some u → w.cell? (ad.add (i.toNat * 1 + j)) = some u := hc0
 obtain ⟨A0, c0, rfl, l0, g0⟩ := hK
 exact ⟨ad, A0, c0, e, by have hq := hc 0 _ rfl; rwa [Nat.mul_one, Nat.add_zero] at hq, l0, g0⟩
end Go.Proofs.YtanabbjakacgbaaGreatDoor.PM
namespace Go.Proofs.YtanabbjakacgbaaGreatDoor.PM
open Go.RowKit Go.Proofs.YtanabbjakacgbaaGreatDoorW.PrintWords Go.Proofs.YtanabbjakacgbaaGreatDoorW.PrintLast Go.Proofs.YtanabbjakacgbaaGreatDoorW.PrintMore
attribute [local go_sem] max2_int min2_int max_two min_two max_three min_three max_four min_four
set_option linter.unusedVariables false
set_option linter.unusedSimpArgs false
def burgageref03_Eight.l0 : Nat → Int → List Int → Int → Option (List Int)
 | 0, _, _, _ => none
 | k + 1, x0, x3, x4 => if x4 ≥ 0 then (if 0 ≤ (wrap64 (8 * x4)) then (if x3.length < 140737488355328 then (burgageref03_Eight.l0 k x0 (x3 ++ [(shr .u64 (IntKind.u64.wrap (x0)) (wrap64 (8 * x4))) % 256]) (wrap64 (x4 - 1))) else (none)) else (none)) else (some x3)
def burgageref03_Eight.f (k : Nat) (a0 : Int) : Option (List Int) := burgageref03_Eight.l0 k a0 (([] : List Int)) 7
theorem burgageref03_Eight.mono_l : ∀ k, (∀ y0 y1 y2, LeO (burgageref03_Eight.l0 k y0 y1 y2) (burgageref03_Eight.l0 (k + 1) y0 y1 y2))
 | 0 => fun _ _ _ r h => by simp [burgageref03_Eight.l0] at h
 | k + 1 => by
  have ih0 := burgageref03_Eight.mono_l k
  ·intro y0 y1 y2
   unfold burgageref03_Eight.l0
   repeat' first
   | (with_reducible exact ih0 _ _ _)
   | (with_reducible exact LeO.refl _)
   | (with_reducible exact LeO.none _)
   | (with_reducible refine LeO.ite ?_ ?_)
   | (with_reducible refine LeO.bind ?_ (fun _ => ?_))
   | exact ih0 _ _ _
   | exact LeO.none _
   | refine LeO.ite ?_ ?_
   | refine LeO.bind ?_ (fun _ => ?_)
theorem burgageref03_Eight.mono : ∀ a0 k, LeO (burgageref03_Eight.f k a0) (burgageref03_Eight.f (k + 1) a0) := by
 intro a0 k
 have ih0 := burgageref03_Eight.mono_l k
 unfold burgageref03_Eight.f
 repeat' first
   | (with_reducible exact ih0 _ _ _)
   | (with_reducible exact LeO.refl _)
   | (with_reducible exact LeO.none _)
   | (with_reducible refine LeO.ite ?_ ?_)
   | (with_reducible refine LeO.bind ?_ (fun _ => ?_))
   | exact ih0 _ _ _
   | exact LeO.none _
   | refine LeO.ite ?_ ?_
   | refine LeO.bind ?_ (fun _ => ?_)
set_option maxHeartbeats 8000000 in
set_option maxRecDepth 100000 in
theorem burgageref03_Eight.calls (k : Nat) (a0 : Int) (r : List Int) (w : World) (h : burgageref03_Eight.f k a0 = some r) :
  Calls Tryz.prog 73 #[.int .i64 a0] w fun e w' => ∃ v0_ : Value, e = .returned (v0_) ∧ Kd.R (Kd.int .u8) 5 w' w.heap.size (fun _ => True) v0_ r ∧ Below w.heap.size w w' := by
 have HB := Aside0.mk (Below.refl w.heap.size w)
 have H : (burgageref03_Eight.l0 k a0 (([] : List Int)) 7) = some r := h
 clear h
 obtain ⟨y101, hy101⟩ : ∃ y_ : List Int, y_ = (([] : List Int)) := ⟨_, rfl⟩
 replace H : (burgageref03_Eight.l0 k a0 y101 7) = some r := by first | (rw [hy101]; with_reducible exact H) | (have H2_ := (Option.bind_some _ _).symm.trans H; rw [hy101]; with_reducible exact H2_) | (have H2_ := (Option.bind_some _ _).symm.trans H; with_reducible exact H2_) | with_reducible exact H | (rw [hy101]; exact H) | exact H
 have Ny101 := Aside0.mk hy101
 clear hy101
 have H' := Aside0.mk H
 clear H
 go_enter Tryz.func73, Tryz.ntmps73
 go_wp2_with (first | ((with_reducible refine gate_dst (N := 5) rfl ?_); refine Kd.R_lit (Kd.int .u8) _ 5 ?hg (N := 5) ?hd (xs := ([] : List Int)) (inner := []) (ok := fun _ => True) (okp := fun _ => True) ?hr ?hp (fun _ hk => hk) trivial (Below.refl _ _) (Nat.le_refl _) (by simp) ?_; (case hd => rfl); (case hg => rfl); (case hr => first | (go_simp; done) | (go_simp; rfl)); (case hp => exact (Reps.none _ _)); intro v102 w2 ho3 hb hg_ hnew_; clear hg_ hnew_; (first | rw [← Ny101.out] at ho3 | (simp only [Int.reduceToNat] at ho3; rw [← Ny101.out] at ho3)); have n0_ := Aside0.mk (Kd.R_lower ho3 (below_size (by repeat (first | (with_reducible first | exact HB.out | apply below_alloc | apply pw_below_drewN | apply below_drew1) | exact HB.out)))); have n1_ := Aside0.mk (below_step (by repeat (first | (with_reducible first | exact HB.out | apply below_alloc | apply pw_below_drewN | apply below_drew1) | exact HB.out)) hb); clear HB; have HO103 := n0_; have HB := n1_; clear n0_ n1_; clear hb ho3))
 go_loopg [3, 4] k (fun kq v3 v4 w' => ∃ (x3_1 : List Int) (x4_1 : Int), v4 = .int .i64 x4_1 ∧ Aside0 (burgageref03_Eight.l0 kq a0 x3_1 x4_1 = some r) ∧ Aside0 (kq ≤ k) ∧ Aside0 (Kd.R (Kd.int .u8) 5 w' w.heap.size (fun _ => True) v3 x3_1) ∧ Aside0 (Below w.heap.size w w'))
 case atStart => exact ⟨(y101), (7), (by first | rfl | (simp; done) | (simp [*]; done)), H', ⟨Nat.le_refl _⟩, ⟨by (with_reducible repeat (first | apply Kd.R_alloc | apply Kd.R_drewN | apply Kd.R_drew)); exact HO103.out⟩, ⟨by repeat (first | (with_reducible first | exact HB.out | apply below_alloc | apply pw_below_drewN | apply below_drew1) | exact HB.out)⟩⟩
 case round =>
  clear H'
  try clear p2
  obtain ⟨x3_1, x4_1, rfl, HA, HK1, HO_3, HB⟩ := hrel
  cases gk with
  | zero => exact absurd HA.out (by simp [burgageref03_Eight.l0])
  | succ k1 =>
   have H := HA.out
   clear HA
   simp only [burgageref03_Eight.l0] at H
   by_cases c4 : x4_1 ≥ 0
   ·rw [if_pos c4] at H
    have c4b0 : decide (0 ≤ x4_1) = true := decide_eq_true c4
    clear c4
    obtain ⟨ji5, hji5⟩ : ∃ j_ : Int, (wrap64 (8 * x4_1)) = j_ := ⟨_, rfl⟩
    replace H : (if 0 ≤ (ji5) then (if x3_1.length < 140737488355328 then (burgageref03_Eight.l0 k1 a0 (x3_1 ++ [(shr .u64 (IntKind.u64.wrap (a0)) (ji5)) % 256]) (wrap64 (x4_1 - 1))) else (none)) else (none)) = some r := by first | (rw [hji5] at H; exact H) | (simp only [hji5] at H ⊢; exact H)
    have hji5w : (IntKind.i64.wrap (8 * x4_1)) = ji5 := (i64_w _).trans hji5
    by_cases c6 : 0 ≤ (ji5)
    ·rw [if_pos c6] at H
     have c6b0 := eq_true c6
     have c6b1 : decide (0 ≤ (ji5)) = true := decide_eq_true c6
     clear c6
     obtain ⟨ji7, hji7⟩ : ∃ j_ : Int, (shr .u64 (IntKind.u64.wrap (a0)) (ji5)) = j_ := ⟨_, rfl⟩
     replace H : (if x3_1.length < 140737488355328 then (burgageref03_Eight.l0 k1 a0 (x3_1 ++ [(ji7) % 256]) (wrap64 (x4_1 - 1))) else (none)) = some r := by first | (rw [hji7] at H; exact H) | (simp only [hji7] at H ⊢; exact H)
     have hji7_ : ((IntKind.u64.wrap (a0)) / 2 ^ min (ji5).toNat 64) = ji7 := hji7
     have hji7z : (ji5) ≤ 64 → ((IntKind.u64.wrap (a0)) / 2 ^ (ji5).toNat) = ji7 := shr_small hji7
     by_cases c8 : x3_1.length < 140737488355328
     ·rw [if_pos c8] at H
      have LMc8 := Aside0.mk c8
      clear c8
      obtain ⟨y104, hy104⟩ : ∃ y_ : List Int, y_ = (x3_1 ++ [(ji7) % 256]) := ⟨_, rfl⟩
      replace H : (burgageref03_Eight.l0 k1 a0 y104 (wrap64 (x4_1 - 1))) = some r := by first | (rw [hy104]; with_reducible exact H) | (have H2_ := (Option.bind_some _ _).symm.trans H; rw [hy104]; with_reducible exact H2_) | (have H2_ := (Option.bind_some _ _).symm.trans H; with_reducible exact H2_) | with_reducible exact H | (rw [hy104]; exact H) | exact H
      have Ny104 := Aside0.mk hy104
      clear hy104
      have H' := Aside0.mk H
      clear H
      go_wp2_with (first | ((with_reducible refine gate_builtin (b := .append) (xs := #[.tmp 10, .tmp 17]) rfl ?_); at_builtin; refine Kd.R_append (Kd.int .u8) (w0 := w) w.heap.size rfl (.tmp 10) (.tmp 17) 53 5 (.int .u8 0) 1 rfl Tryz.underlying53 info5 rfl (by decide) (by omega) u3 x3_1 ((ji7) % 256) [.int .u8 ((ji7) % 256)] (fun _ => True) (fun _ => False) rfl rfl ?aP (fun _ hk => hk.elim) ?aF ?aO ?aB ?aS ?aL ?_; (case aP => exact rfl); (case aB => exact (by repeat (first | (with_reducible first | exact HB.out | apply below_alloc | apply pw_below_drewN | apply below_drew1) | exact HB.out))); (case aF => exact (fun _ _ => trivial)); (case aO => exact (by (with_reducible repeat (first | apply Kd.R_alloc | apply Kd.R_drewN | apply Kd.R_drew)); exact HO_3.out)); (case aS => exact (below_size (by repeat (first | (with_reducible first | exact HB.out | apply below_alloc | apply pw_below_drewN | apply below_drew1) | exact HB.out)))); (case aL => have := LMc8.out; omega); intro v105 w9 ho hb hg hat; rw [← Ny104.out] at ho; have n0_ := Aside0.mk (hb); have n1_ := Aside0.mk (ho); clear HB; clear HO_3; have HB := n0_; have HO106 := n1_; clear n0_ n1_; clear ho hb hg hat))
      go_roundg k1
      case measure => have := HK1.out; omega
      case rel => exact ⟨(y104), (wrap64 (x4_1 - 1)), (by first | rfl | (simp; done) | (simp [*]; done)), H', ⟨by have := HK1.out; omega⟩, ⟨by (with_reducible repeat (first | apply Kd.R_alloc | apply Kd.R_drewN | apply Kd.R_drew)); exact HO106.out⟩, ⟨by repeat (first | (with_reducible first | exact HB.out | apply below_alloc | apply pw_below_drewN | apply below_drew1) | exact HB.out)⟩⟩
     ·rw [if_neg c8] at H
      exact absurd H (by simp)
    ·rw [if_neg c6] at H
     exact absurd H (by simp)
   ·rw [if_neg c4] at H
    have c4b0 : decide (0 ≤ x4_1) = false := decide_eq_false c4
    clear c4
    obtain rfl := Option.some.inj H
    go_wp2
    go_ret
    exact ⟨_, by first | rfl | (simp [errW_none, errW_some] <;> rfl) | (simp [*, errW_none, errW_some] <;> rfl) | (exfalso; simp_all only [aside0_iff, Option.some.injEq, reduceCtorEq]), by (with_reducible repeat (first | apply Kd.R_alloc | apply Kd.R_drewN | apply Kd.R_drew)); exact HO_3.out, by repeat (first | (with_reducible first | exact HB.out | apply below_alloc | apply pw_below_drewN | apply below_drew1) | exact HB.out)⟩
def burgageref03_Bytes.l0 : Nat → List (List Int) → List Int → Int → Option (List Int)
 | 0, _, _, _ => none
 | k + 1, x1, x5, x6 => if x6 < (x1.length : Int) then (if 0 ≤ x6 then ((burgageref03_Eight.f k ((rd_L1 x1 x6).length : Int)).bind fun t111 => (if x5.length + t111.length < 140737488355328 then ((some (x5 ++ t111 : List Int)).bind fun y114 => (if y114.length + (rd_L1 x1 x6).length < 140737488355328 then (burgageref03_Bytes.l0 k x1 (y114 ++ (rd_L1 x1 x6)) (wrap64 (x6 + 1))) else (none))) else (none))) else (none)) else (some x5)
def burgageref03_Bytes.f (k : Nat) (a0 : Int) (l1 : List (List Int)) : Option (List Int) := burgageref03_Bytes.l0 k l1 (([a0] : List Int)) 0
theorem burgageref03_Bytes.mono_l : ∀ k, (∀ y0 y1 y2, LeO (burgageref03_Bytes.l0 k y0 y1 y2) (burgageref03_Bytes.l0 (k + 1) y0 y1 y2))
 | 0 => fun _ _ _ r h => by simp [burgageref03_Bytes.l0] at h
 | k + 1 => by
  have ih0 := burgageref03_Bytes.mono_l k
  ·intro y0 y1 y2
   unfold burgageref03_Bytes.l0
   repeat' first
   | (with_reducible exact ih0 _ _ _)
   | (with_reducible exact burgageref03_Eight.mono _ _)
   | (with_reducible exact LeO.refl _)
   | (with_reducible exact LeO.none _)
   | (with_reducible refine LeO.ite ?_ ?_)
   | (with_reducible refine LeO.bind ?_ (fun _ => ?_))
   | exact ih0 _ _ _
   | exact burgageref03_Eight.mono _ _
   | exact LeO.none _
   | refine LeO.ite ?_ ?_
   | refine LeO.bind ?_ (fun _ => ?_)
theorem burgageref03_Bytes.mono : ∀ a0 a1 k, LeO (burgageref03_Bytes.f k a0 a1) (burgageref03_Bytes.f (k + 1) a0 a1) := by
 intro a0 a1 k
 have ih0 := burgageref03_Bytes.mono_l k
 unfold burgageref03_Bytes.f
 repeat' first
   | (with_reducible exact ih0 _ _ _)
   | (with_reducible exact burgageref03_Eight.mono _ _)
   | (with_reducible exact LeO.refl _)
   | (with_reducible exact LeO.none _)
   | (with_reducible refine LeO.ite ?_ ?_)
   | (with_reducible refine LeO.bind ?_ (fun _ => ?_))
   | exact ih0 _ _ _
   | exact burgageref03_Eight.mono _ _
   | exact LeO.none _
   | refine LeO.ite ?_ ?_
   | refine LeO.bind ?_ (fun _ => ?_)
set_option maxHeartbeats 8000000 in
set_option maxRecDepth 100000 in
theorem burgageref03_Bytes.calls (k : Nat) (a0 : Int) (A1 : Option Addr) (c1 : Nat) (l1 : List (List Int)) (r : List Int) (w : World) (hr1 : Kd.C (Kd.slice 5 (Kd.int .u8)) w A1 l1.length l1) (hc1 : l1.length ≤ c1) (h : burgageref03_Bytes.f k a0 l1 = some r) :
  Calls Tryz.prog 46 #[.int .u8 a0, .slice A1 l1.length c1] w fun e w' => ∃ v0_ : Value, e = .returned (v0_) ∧ Kd.R (Kd.int .u8) 5 w' w.heap.size (fun _ => True) v0_ r ∧ Below w.heap.size w w' := by
 have HR1 := Aside0.mk hr1
 have HC1 := Aside0.mk hc1
 clear hr1 hc1
 have HB := Aside0.mk (Below.refl w.heap.size w)
 have H : (burgageref03_Bytes.l0 k l1 (([a0] : List Int)) 0) = some r := h
 clear h
 obtain ⟨y107, hy107⟩ : ∃ y_ : List Int, y_ = (([a0] : List Int)) := ⟨_, rfl⟩
 replace H : (burgageref03_Bytes.l0 k l1 y107 0) = some r := by first | (rw [hy107]; with_reducible exact H) | (have H2_ := (Option.bind_some _ _).symm.trans H; rw [hy107]; with_reducible exact H2_) | (have H2_ := (Option.bind_some _ _).symm.trans H; with_reducible exact H2_) | with_reducible exact H | (rw [hy107]; exact H) | exact H
 have Ny107 := Aside0.mk hy107
 clear hy107
 have H' := Aside0.mk H
 clear H
 go_enter Tryz.func46, Tryz.ntmps46
 go_wp2_with (first | ((with_reducible refine gate_dst (N := 8) rfl ?_); refine Kd.R_lit (Kd.int .u8) _ 5 ?hg (N := 8) ?hd (xs := ([a0] : List Int)) (inner := [.int .u8 a0]) (ok := fun _ => True) (okp := fun _ => True) ?hr ?hp (fun _ hk => hk) trivial (Below.refl _ _) (Nat.le_refl _) (by simp) ?_; (case hd => rfl); (case hg => rfl); (case hr => first | (go_simp; done) | (go_simp; rfl)); (case hp => exact (Reps.one (show Kd.M (Kd.int .u8) _ _ _ a0 [.int .u8 a0] from rfl) (Reps.none _ _))); intro v108 w3 ho4 hb hg_ hnew_; clear hg_ hnew_; (first | rw [← Ny107.out] at ho4 | (simp only [Int.reduceToNat] at ho4; rw [← Ny107.out] at ho4)); have n0_ := Aside0.mk (Kd.R_lower ho4 (below_size (by repeat (first | (with_reducible first | exact HB.out | apply below_alloc | apply pw_below_drewN | apply below_drew1) | exact HB.out)))); have n1_ := Aside0.mk (below_step (by repeat (first | (with_reducible first | exact HB.out | apply below_alloc | apply pw_below_drewN | apply below_drew1) | exact HB.out)) hb); clear HB; have HO109 := n0_; have HB := n1_; clear n0_ n1_; clear hb ho4))
 go_loopg [5, 6] k (fun kq v5 v6 w' => ∃ (x5_1 : List Int) (x6_1 : Int), v6 = .int .i64 x6_1 ∧ Aside0 (burgageref03_Bytes.l0 kq l1 x5_1 x6_1 = some r) ∧ Aside0 (kq ≤ k) ∧ Aside0 (Kd.R (Kd.int .u8) 5 w' w.heap.size (fun _ => True) v5 x5_1) ∧ Aside0 (Below w.heap.size w w'))
 case atStart => exact ⟨(y107), (0), (by first | rfl | (simp; done) | (simp [*]; done)), H', ⟨Nat.le_refl _⟩, ⟨by (with_reducible repeat (first | apply Kd.R_alloc | apply Kd.R_drewN | apply Kd.R_drew)); exact HO109.out⟩, ⟨by repeat (first | (with_reducible first | exact HB.out | apply below_alloc | apply pw_below_drewN | apply below_drew1) | exact HB.out)⟩⟩
 case round =>
  clear H'
  try clear c1
  try clear p2
  try clear c4
  obtain ⟨x5_1, x6_1, rfl, HA, HK1, HO_5, HB⟩ := hrel
  cases gk with
  | zero => exact absurd HA.out (by simp [burgageref03_Bytes.l0])
  | succ k1 =>
   have H := HA.out
   clear HA
   simp only [burgageref03_Bytes.l0] at H
   by_cases c5 : x6_1 < (l1.length : Int)
   ·rw [if_pos c5] at H
    have c5b0 : decide (x6_1 < (l1.length : Int)) = true := decide_eq_true c5
    clear c5
    by_cases c6 : 0 ≤ x6_1
    ·rw [if_pos c6] at H
     have c6b0 : decide (0 ≤ x6_1) = true := decide_eq_true c6
     clear c6
     replace H := Option.bind_eq_some_iff.mp H
     obtain ⟨t111, A70, H⟩ := H
     replace H : (if x5_1.length + t111.length < 140737488355328 then ((some (x5_1 ++ t111 : List Int)).bind fun y114 => (if y114.length + (rd_L1 l1 x6_1).length < 140737488355328 then (burgageref03_Bytes.l0 k1 l1 (y114 ++ (rd_L1 l1 x6_1)) (wrap64 (x6_1 + 1))) else (none))) else (none)) = some r := H
     have A7 := Aside0.mk A70
     clear A70
     by_cases c8 : x5_1.length + t111.length < 140737488355328
     ·rw [if_pos c8] at H
      have LMc8 := Aside0.mk c8
      clear c8
      obtain ⟨y114, hy114⟩ : ∃ y_ : List Int, y_ = (x5_1 ++ t111) := ⟨_, rfl⟩
      replace H : (if y114.length + (rd_L1 l1 x6_1).length < 140737488355328 then (burgageref03_Bytes.l0 k1 l1 (y114 ++ (rd_L1 l1 x6_1)) (wrap64 (x6_1 + 1))) else (none)) = some r := by first | (rw [hy114]; with_reducible exact H) | (have H2_ := (Option.bind_some _ _).symm.trans H; rw [hy114]; with_reducible exact H2_) | (have H2_ := (Option.bind_some _ _).symm.trans H; with_reducible exact H2_) | with_reducible exact H | (rw [hy114]; exact H) | exact H
      have Ny114 := Aside0.mk hy114
      clear hy114
      by_cases c9 : y114.length + (rd_L1 l1 x6_1).length < 140737488355328
      ·rw [if_pos c9] at H
       have LMc9 := Aside0.mk c9
       clear c9
       obtain ⟨y118, hy118⟩ : ∃ y_ : List Int, y_ = (y114 ++ (rd_L1 l1 x6_1)) := ⟨_, rfl⟩
       replace H : (burgageref03_Bytes.l0 k1 l1 y118 (wrap64 (x6_1 + 1))) = some r := by first | (rw [hy118]; with_reducible exact H) | (have H2_ := (Option.bind_some _ _).symm.trans H; rw [hy118]; with_reducible exact H2_) | (have H2_ := (Option.bind_some _ _).symm.trans H; with_reducible exact H2_) | with_reducible exact H | (rw [hy118]; exact H) | exact H
       have Ny118 := Aside0.mk hy118
       clear hy118
       have H' := Aside0.mk H
       clear H
       have p110 : 0 ≤ (x6_1 : Int) := of_decide_eq_true (by first | (with_reducible assumption) | assumption)
       have q110 : x6_1 < (l1.length : Int) := of_decide_eq_true (by first | (with_reducible assumption) | assumption)
       obtain ⟨ad110, A110_0, c110_0, e110, hx110_0, hl110_0, hi110_0⟩ := at_L1 HR1.out x6_1 p110 q110
       cases e110
       replace hx110_0 := (HB.out.cell (World.block_lt_of_cell? w _ hx110_0)).trans hx110_0
       have HR110_0 := Aside0.mk hi110_0
       have HC110_0 := Aside0.mk hl110_0
       clear hi110_0 hl110_0
       replace p110 := eq_true p110
       replace q110 := eq_true q110
       go_wp2_with (first | ((with_reducible refine gate_callee (f := 73) rfl ?_); refine goesL_ (some 21) rfl rfl Tryz.func73 (by kernel_rfl) rfl #[.int .i64 ((rd_L1 l1 x6_1).length : Int)] rfl (by (try simp only [List.map_toArray, List.map_cons, List.map_nil]); first | done | rfl | (simp only [List.length_drop, List.length_take]; rfl)) ?_; (with_reducible refine (burgageref03_Eight.calls k1 ((rd_L1 l1 x6_1).length : Int) t111 _ A7.out).mono ?_); rintro e w10 ⟨v112, rfl, ho0, hb⟩; refine ⟨_, rfl, ?_⟩; have n0_ := Aside0.mk (Kd.R_elder' (by (with_reducible repeat (first | apply Kd.R_alloc | apply Kd.R_drewN | apply Kd.R_drew)); exact HO_5.out) (Kd.R_base ho0) hb); have n1_ := Aside0.mk (Kd.R_lower (Kd.R_new' ho0 (Kd.R_lt (by (with_reducible repeat (first | apply Kd.R_alloc | apply Kd.R_drewN | apply Kd.R_drew)); exact HO_5.out))) (below_size (by repeat (first | (with_reducible first | exact HB.out | apply below_alloc | apply pw_below_drewN | apply below_drew1) | exact HB.out)))); have n2_ := Aside0.mk (below_step (by repeat (first | (with_reducible first | exact HB.out | apply below_alloc | apply pw_below_drewN | apply below_drew1) | exact HB.out)) hb); clear HO_5; clear HB; have HO_5 := n0_; have HO113 := n1_; have HB := n2_; clear n0_ n1_ n2_; (try clear hb); (try clear hb2); (try clear hk); (try clear hi); (try clear ho0); obtain ⟨Ao12, co12, eo12⟩ := Kd.R_slice HO113.out; subst eo12) | ((with_reducible refine gate_builtin (b := .append) (xs := #[.tmp 15, .tmp 21]) rfl ?_); at_builtin; refine Kd.R_append_rows (Kd.int .u8) (w0 := w) w.heap.size rfl (.tmp 15) (.tmp 21) 53 5 (.int .u8 0) 1 rfl Tryz.underlying53 info5 rfl (by decide) (by omega) u5 x5_1 t111 _ _ _ (fun k_ => some k_ ≠ (.slice Ao12 t111.length co12 : Value).ownBlock) (fun _ => False) rfl rfl ?aO ?aR (fun _ _ h => h) (fun _ h => h.elim) ?aF ?aB ?aS ?aL ?_; (case aR => repeat (first | exact (Kd.R_reads' HO113.out).2.2 | (with_reducible refine Kd.C_alloc ?_ _) | (with_reducible refine Kd.C_drewN ?_ _) | (with_reducible refine Kd.C_drew ?_))); (case aB => exact (by repeat (first | (with_reducible first | exact HB.out | apply below_alloc | apply pw_below_drewN | apply below_drew1) | exact HB.out))); (case aF => exact (fun k_ hk => Kd.fresh' (Kd.R_lt (by (with_reducible repeat (first | apply Kd.R_alloc | apply Kd.R_drewN | apply Kd.R_drew)); exact HO113.out)) k_ hk)); (case aO => exact (by (with_reducible repeat (first | apply Kd.R_alloc | apply Kd.R_drewN | apply Kd.R_drew)); exact Kd.R_mono HO_5.out (fun _ hk => hk.2))); (case aS => exact (below_size (by repeat (first | (with_reducible first | exact HB.out | apply below_alloc | apply pw_below_drewN | apply below_drew1) | exact HB.out)))); (case aL => have := LMc8.out; omega); intro v115 w11 ho hb hg hat; rw [← Ny114.out] at ho; have n0_ := Aside0.mk (Kd.R_after (ok := (fun _ => True)) (by (with_reducible repeat (first | apply Kd.R_alloc | apply Kd.R_drewN | apply Kd.R_drew)); exact HO113.out) hg hat); have n1_ := Aside0.mk (hb); have n2_ := Aside0.mk (ho); clear HO113; clear HB; clear HO_5; have HO113 := n0_; have HB := n1_; have HO116 := n2_; clear n0_ n1_ n2_; clear ho hb hg hat; have p117 : 0 ≤ (x6_1 : Int) := of_decide_eq_true (by first | (with_reducible assumption) | assumption); have q117 : x6_1 < (l1.length : Int) := of_decide_eq_true (by first | (with_reducible assumption) | assumption); obtain ⟨ad117, A117_0, c117_0, e117, hx117_0, hl117_0, hi117_0⟩ := at_L1 HR1.out x6_1 p117 q117; obtain rfl : ad110 = ad117 := (by injection e117); replace hx117_0 := (HB.out.cell (World.block_lt_of_cell? w _ hx117_0)).trans hx117_0; have HR117_0 := Aside0.mk hi117_0; have HC117_0 := Aside0.mk hl117_0; clear hi117_0 hl117_0; replace p117 := eq_true p117; replace q117 := eq_true q117) | ((with_reducible refine gate_builtin (b := .append) (xs := #[.tmp 23, .tmp 27]) rfl ?_); at_builtin; refine Kd.R_append_rows (Kd.int .u8) (w0 := w) w.heap.size rfl (.tmp 23) (.tmp 27) 53 5 (.int .u8 0) 1 rfl Tryz.underlying53 info5 rfl (by decide) (by omega) v115 y114 (rd_L1 l1 x6_1) _ _ _ (fun k_ => some k_ ≠ (.slice Ao12 t111.length co12 : Value).ownBlock) (fun _ => False) rfl rfl ?aO ?aR (fun _ _ h => h) (fun _ h => h.elim) ?aF ?aB ?aS ?aL ?_; (case aR => repeat (first | exact (Kd.C_below HR117_0.out HB.out) | (with_reducible refine Kd.C_alloc ?_ _) | (with_reducible refine Kd.C_drewN ?_ _) | (with_reducible refine Kd.C_drew ?_))); (case aB => exact (by repeat (first | (with_reducible first | exact HB.out | apply below_alloc | apply pw_below_drewN | apply below_drew1) | exact HB.out))); (case aF => exact (fun k_ hk => Kd.fresh' (Kd.R_lt (by (with_reducible repeat (first | apply Kd.R_alloc | apply Kd.R_drewN | apply Kd.R_drew)); exact HO113.out)) k_ hk)); (case aO => exact (by (with_reducible repeat (first | apply Kd.R_alloc | apply Kd.R_drewN | apply Kd.R_drew)); exact HO116.out)); (case aS => exact (below_size (by repeat (first | (with_reducible first | exact HB.out | apply below_alloc | apply pw_below_drewN | apply below_drew1) | exact HB.out)))); (case aL => have := LMc9.out; omega); intro v119 w13 ho hb hg hat; rw [← Ny118.out] at ho; have n0_ := Aside0.mk (Kd.R_after (ok := (fun _ => True)) (by (with_reducible repeat (first | apply Kd.R_alloc | apply Kd.R_drewN | apply Kd.R_drew)); exact HO113.out) hg hat); have n1_ := Aside0.mk (hb); have n2_ := Aside0.mk (ho); clear HO113; clear HB; clear HO116; have HO113 := n0_; have HB := n1_; have HO120 := n2_; clear n0_ n1_ n2_; clear ho hb hg hat))
       go_roundg k1
       case measure => have := HK1.out; omega
       case rel => exact ⟨(y118), (wrap64 (x6_1 + 1)), (by first | rfl | (simp; done) | (simp [*]; done)), H', ⟨by have := HK1.out; omega⟩, ⟨by (with_reducible repeat (first | apply Kd.R_alloc | apply Kd.R_drewN | apply Kd.R_drew)); exact Kd.R_mono HO120.out (fun _ hk => trivial)⟩, ⟨by repeat (first | (with_reducible first | exact HB.out | apply below_alloc | apply pw_below_drewN | apply below_drew1) | exact HB.out)⟩⟩
      ·rw [if_neg c9] at H
       exact absurd H (by simp)
     ·rw [if_neg c8] at H
      exact absurd H (by simp)
    ·rw [if_neg c6] at H
     exact absurd H (by simp)
   ·rw [if_neg c5] at H
    have c5b0 : decide (x6_1 < (l1.length : Int)) = false := decide_eq_false c5
    clear c5
    obtain rfl := Option.some.inj H
    go_wp2
    go_ret
    exact ⟨_, by first | rfl | (simp [errW_none, errW_some] <;> rfl) | (simp [*, errW_none, errW_some] <;> rfl) | (exfalso; simp_all only [aside0_iff, Option.some.injEq, reduceCtorEq]), by (with_reducible repeat (first | apply Kd.R_alloc | apply Kd.R_drewN | apply Kd.R_drew)); exact HO_5.out, by repeat (first | (with_reducible first | exact HB.out | apply below_alloc | apply pw_below_drewN | apply below_drew1) | exact HB.out)⟩
def sponge_eight.l0 : Nat → Int → List Int → Int → Option (List Int)
 | 0, _, _, _ => none
 | k + 1, x0, x3, x4 => if x4 ≥ 0 then (if 0 ≤ x4 then (if x3.length < 140737488355328 then (sponge_eight.l0 k x0 (x3 ++ [(shr .u64 (IntKind.u64.wrap (x0)) x4) % 256]) (wrap64 (x4 - 8))) else (none)) else (none)) else (some x3)
def sponge_eight.f (k : Nat) (a0 : Int) : Option (List Int) := sponge_eight.l0 k a0 ([] : List Int) 56
theorem sponge_eight.mono_l : ∀ k, (∀ y0 y1 y2, LeO (sponge_eight.l0 k y0 y1 y2) (sponge_eight.l0 (k + 1) y0 y1 y2))
 | 0 => fun _ _ _ r h => by simp [sponge_eight.l0] at h
 | k + 1 => by
  have ih0 := sponge_eight.mono_l k
  ·intro y0 y1 y2
   unfold sponge_eight.l0
   repeat' first
   | (with_reducible exact ih0 _ _ _)
   | (with_reducible exact LeO.refl _)
   | (with_reducible exact LeO.none _)
   | (with_reducible refine LeO.ite ?_ ?_)
   | (with_reducible refine LeO.bind ?_ (fun _ => ?_))
   | exact ih0 _ _ _
   | exact LeO.none _
   | refine LeO.ite ?_ ?_
   | refine LeO.bind ?_ (fun _ => ?_)
theorem sponge_eight.mono : ∀ a0 k, LeO (sponge_eight.f k a0) (sponge_eight.f (k + 1) a0) := by
 intro a0 k
 have ih0 := sponge_eight.mono_l k
 unfold sponge_eight.f
 repeat' first
   | (with_reducible exact ih0 _ _ _)
   | (with_reducible exact LeO.refl _)
   | (with_reducible exact LeO.none _)
   | (with_reducible refine LeO.ite ?_ ?_)
   | (with_reducible refine LeO.bind ?_ (fun _ => ?_))
   | exact ih0 _ _ _
   | exact LeO.none _
   | refine LeO.ite ?_ ?_
   | refine LeO.bind ?_ (fun _ => ?_)
set_option maxHeartbeats 8000000 in
set_option maxRecDepth 100000 in
theorem sponge_eight.calls (k : Nat) (a0 : Int) (r : List Int) (w : World) (h : sponge_eight.f k a0 = some r) :
  Calls Tryz.prog 97 #[.int .i64 a0] w fun e w' => ∃ v0_ : Value, e = .returned (v0_) ∧ Kd.R (Kd.int .u8) 5 w' w.heap.size (fun _ => True) v0_ r ∧ Below w.heap.size w w' := by
 have HB := Aside0.mk (Below.refl w.heap.size w)
 have H : (sponge_eight.l0 k a0 ([] : List Int) 56) = some r := h
 clear h
 have H' := Aside0.mk H
 clear H
 go_enter Tryz.func97, Tryz.ntmps97
 go_wp2
 go_loopg [3, 4] k (fun kq v3 v4 w' => ∃ (x3_1 : List Int) (x4_1 : Int), v4 = .int .i64 x4_1 ∧ Aside0 (sponge_eight.l0 kq a0 x3_1 x4_1 = some r) ∧ Aside0 (kq ≤ k) ∧ Aside0 (Kd.R (Kd.int .u8) 5 w' w.heap.size (fun _ => True) v3 x3_1) ∧ Aside0 (Below w.heap.size w w'))
 case atStart => exact ⟨(([] : List Int)), (56), (by first | rfl | (simp; done) | (simp [*]; done)), H', ⟨Nat.le_refl _⟩, ⟨by first | exact Kd.R_nil _ _ _ _ _ | exact Kd.N_nil _ _ _ _ _ | exact Kd.V_nil _ _ _ _ _ | exact Kd.Q_nil _ _ _ _ _ | exact Kd.S_nil _ _ _ _ _⟩, ⟨by repeat (first | (with_reducible first | exact HB.out | apply below_alloc | apply pw_below_drewN | apply below_drew1) | exact HB.out)⟩⟩
 case round =>
  clear H'
  obtain ⟨x3_1, x4_1, rfl, HA, HK1, HO_3, HB⟩ := hrel
  cases gk with
  | zero => exact absurd HA.out (by simp [sponge_eight.l0])
  | succ k1 =>
   have H := HA.out
   clear HA
   simp only [sponge_eight.l0] at H
   by_cases c2 : x4_1 ≥ 0
   ·rw [if_pos c2] at H
    have c2b0 : decide (0 ≤ x4_1) = true := decide_eq_true c2
    clear c2
    by_cases c3 : 0 ≤ x4_1
    ·rw [if_pos c3] at H
     have c3b0 := eq_true c3
     have c3b1 : decide (0 ≤ x4_1) = true := decide_eq_true c3
     clear c3
     obtain ⟨ji4, hji4⟩ : ∃ j_ : Int, (shr .u64 (IntKind.u64.wrap (a0)) x4_1) = j_ := ⟨_, rfl⟩
     replace H : (if x3_1.length < 140737488355328 then (sponge_eight.l0 k1 a0 (x3_1 ++ [(ji4) % 256]) (wrap64 (x4_1 - 8))) else (none)) = some r := by first | (rw [hji4] at H; exact H) | (simp only [hji4] at H ⊢; exact H)
     have hji4_ : ((IntKind.u64.wrap (a0)) / 2 ^ min x4_1.toNat 64) = ji4 := hji4
     have hji4z : x4_1 ≤ 64 → ((IntKind.u64.wrap (a0)) / 2 ^ x4_1.toNat) = ji4 := shr_small hji4
     by_cases c5 : x3_1.length < 140737488355328
     ·rw [if_pos c5] at H
      have LMc5 := Aside0.mk c5
      clear c5
      obtain ⟨y121, hy121⟩ : ∃ y_ : List Int, y_ = (x3_1 ++ [(ji4) % 256]) := ⟨_, rfl⟩
      replace H : (sponge_eight.l0 k1 a0 y121 (wrap64 (x4_1 - 8))) = some r := by first | (rw [hy121]; with_reducible exact H) | (have H2_ := (Option.bind_some _ _).symm.trans H; rw [hy121]; with_reducible exact H2_) | (have H2_ := (Option.bind_some _ _).symm.trans H; with_reducible exact H2_) | with_reducible exact H | (rw [hy121]; exact H) | exact H
      have Ny121 := Aside0.mk hy121
      clear hy121
      have H' := Aside0.mk H
      clear H
      go_wp2_with (first | ((with_reducible refine gate_builtin (b := .append) (xs := #[.tmp 9, .tmp 15]) rfl ?_); at_builtin; refine Kd.R_append (Kd.int .u8) (w0 := w) w.heap.size rfl (.tmp 9) (.tmp 15) 53 5 (.int .u8 0) 1 rfl Tryz.underlying53 info5 rfl (by decide) (by omega) u3 x3_1 ((ji4) % 256) [.int .u8 ((ji4) % 256)] (fun _ => True) (fun _ => False) rfl rfl ?aP (fun _ hk => hk.elim) ?aF ?aO ?aB ?aS ?aL ?_; (case aP => exact rfl); (case aB => exact (by repeat (first | (with_reducible first | exact HB.out | apply below_alloc | apply pw_below_drewN | apply below_drew1) | exact HB.out))); (case aF => exact (fun _ _ => trivial)); (case aO => exact (by (with_reducible repeat (first | apply Kd.R_alloc | apply Kd.R_drewN | apply Kd.R_drew)); exact HO_3.out)); (case aS => exact (below_size (by repeat (first | (with_reducible first | exact HB.out | apply below_alloc | apply pw_below_drewN | apply below_drew1) | exact HB.out)))); (case aL => have := LMc5.out; omega); intro v122 w6 ho hb hg hat; rw [← Ny121.out] at ho; have n0_ := Aside0.mk (hb); have n1_ := Aside0.mk (ho); clear HB; clear HO_3; have HB := n0_; have HO123 := n1_; clear n0_ n1_; clear ho hb hg hat))
      go_roundg k1
      case measure => have := HK1.out; omega
      case rel => exact ⟨(y121), (wrap64 (x4_1 - 8)), (by first | rfl | (simp; done) | (simp [*]; done)), H', ⟨by have := HK1.out; omega⟩, ⟨by (with_reducible repeat (first | apply Kd.R_alloc | apply Kd.R_drewN | apply Kd.R_drew)); exact HO123.out⟩, ⟨by repeat (first | (with_reducible first | exact HB.out | apply below_alloc | apply pw_below_drewN | apply below_drew1) | exact HB.out)⟩⟩
     ·rw [if_neg c5] at H
      exact absurd H (by simp)
    ·rw [if_neg c3] at H
     exact absurd H (by simp)
   ·rw [if_neg c2] at H
    have c2b0 : decide (0 ≤ x4_1) = false := decide_eq_false c2
    clear c2
    obtain rfl := Option.some.inj H
    go_wp2
    go_ret
    exact ⟨_, by first | rfl | (simp [errW_none, errW_some] <;> rfl) | (simp [*, errW_none, errW_some] <;> rfl) | (exfalso; simp_all only [aside0_iff, Option.some.injEq, reduceCtorEq]), by (with_reducible repeat (first | apply Kd.R_alloc | apply Kd.R_drewN | apply Kd.R_drew)); exact HO_3.out, by repeat (first | (with_reducible first | exact HB.out | apply below_alloc | apply pw_below_drewN | apply below_drew1) | exact HB.out)⟩
end Go.Proofs.YtanabbjakacgbaaGreatDoor.PM

