/- Put together by this session's program out of: Pb Pc Sl Pg Hr Hz Hy Hx Gs Gt Gv He. -/
import Derived.Laws.BytesArg
import Derived.Test.YtanabbjakacgbaaGreatDoorM11
import Derived.Test.YtanabbjakacgbaaGreatDoorM12
import Derived.Test.YtanabbjakacgbaaGreatDoorM4
import Derived.Test.YtanabbjakacgbaaGreatDoorM2
import Derived.Test.YtanabbjakacgbaaGreatDoorM9
namespace Go.Proofs.YtanabbjakacgbaaGreatDoor.Sp
open Go.RowKit Go.Proofs.YtanabbjakacgbaaGreatDoorW.PrintWords Go.Proofs.YtanabbjakacgbaaGreatDoorW.PrintLast Go.Proofs.YtanabbjakacgbaaGreatDoorW.PrintMore Go.Proofs.YtanabbjakacgbaaGreatDoor.PM
set_option linter.unusedVariables false
set_option linter.unusedSimpArgs false
theorem bl_irr : ∀ a : List UInt8, Op.bytesLess a a = false
 | [] => rfl
 | x :: a => by rw [Op.bytesLess]; simp [UInt8.lt_irrefl, bl_irr a]
theorem bl_trans : ∀ a b c : List UInt8, Op.bytesLess a b = true → Op.bytesLess b c = true → Op.bytesLess a c = true
 | [], [], c, h1, h2 => by simp [Op.bytesLess] at h1
 | [], _ :: _, [], h1, h2 => by simp [Op.bytesLess] at h2
 | [], _ :: _, _ :: _, h1, h2 => rfl
 | _ :: _, [], _, h1, h2 => by simp [Op.bytesLess] at h1
 | _ :: _, _ :: _, [], h1, h2 => by simp [Op.bytesLess] at h2
 | x :: a, y :: b, z :: c, h1, h2 => by
  have ih := bl_trans a b c
  simp only [Op.bytesLess, Bool.or_eq_true, Bool.and_eq_true, decide_eq_true_eq, beq_iff_eq] at h1 h2 ⊢
  rcases h1 with h1 | ⟨rfl, h1⟩
  ·rcases h2 with h2 | ⟨rfl, h2⟩
   ·exact .inl (UInt8.lt_trans h1 h2)
   ·exact .inl h1
  ·rcases h2 with h2 | ⟨rfl, h2⟩
   ·exact .inl h2
   ·exact .inr ⟨rfl, ih h1 h2⟩
theorem blt_irr (a : ByteArray) : blt a a = false := bl_irr _
theorem blt_trans {a b c : ByteArray} (h1 : blt a b = true) (h2 : blt b c = true) : blt a c = true := bl_trans _ _ _ h1 h2
theorem blt_ne {a b : ByteArray} (h : blt a b = true) : ¬ a = b := fun e => by rw [e, blt_irr] at h; cases h
theorem blt_asym {a b : ByteArray} (h : blt a b = true) : blt b a = false := by
 by_cases hb : blt b a = true
 ·have := blt_trans h hb; rw [blt_irr] at this; cases this
 ·simpa using hb
theorem blt_tot {a b : ByteArray} (h : blt a b = false) (hne : ¬ a = b) : blt b a = true := by
 have := bl_tri a.toList b.toList
 rw [show Op.bytesLess a.toList b.toList = false from h, Bool.false_or] at this
 by_cases hb : blt b a = true
 ·exact hb
 ·rw [show Op.bytesLess b.toList a.toList = false by simpa [blt] using hb] at this
  exact absurd (toList_inj.1 (by simpa using this)) hne
def Srt (l : List Lf) : Prop := l.Pairwise fun a b => blt a.k b.k = true
theorem Srt.one {l : List Lf} (h : Srt l) : ∀ {x y : Lf}, x ∈ l → y ∈ l → x.k = y.k → x = y := by
 induction l with
 | nil => intro x y hx; cases hx
 | cons z l ih =>
  intro x y hx hy e
  have h2 := List.pairwise_cons.1 h
  rcases List.mem_cons.1 hx with hx1 | hx1
  ·rcases List.mem_cons.1 hy with hy1 | hy1
   ·rw [hx1, hy1]
   ·have := h2.1 _ hy1; rw [← e, hx1, blt_irr] at this; cases this
  ·rcases List.mem_cons.1 hy with hy1 | hy1
   ·have := h2.1 _ hx1; rw [e, hy1, blt_irr] at this; cases this
   ·exact ih h2.2 hx1 hy1 e
theorem step_after (x y : Lf) (acc : List Lf) : putStep x (acc, true) y = if y.k = x.k then (acc, true) else (acc ++ [y], true) := by simp [putStep]
theorem step_lt {x y : Lf} (h : blt y.k x.k = true) (acc : List Lf) : putStep x (acc, false) y = (acc ++ [y], false) := by simp [putStep, h, blt_ne h]
theorem step_ge {x y : Lf} (h : blt y.k x.k = false) (acc : List Lf) : putStep x (acc, false) y = if y.k = x.k then (acc ++ [x], true) else (acc ++ [x] ++ [y], true) := by simp [putStep, h]
theorem put_after (x : Lf) : ∀ (l : List Lf) (acc : List Lf), l.foldl (putStep x) (acc, true) = (acc ++ l.filter fun y => decide (¬ y.k = x.k), true)
 | [], acc => by simp
 | y :: l, acc => by
  rw [List.foldl_cons, step_after]
  by_cases h : y.k = x.k
  ·rw [if_pos h, put_after x l, List.filter_cons_of_neg (by simp [h])]
  ·rw [if_neg h, put_after x l, List.filter_cons_of_pos (by simp [h]), List.append_assoc]
   rfl
theorem put_fold (x : Lf) : ∀ (l : List Lf) (acc : List Lf), Srt l → l.foldl (putStep x) (acc, false) = if (∀ y ∈ l, blt y.k x.k = true) then (acc ++ l, false) else (acc ++ (l.filter fun y => blt y.k x.k) ++ x :: l.filter (fun y => blt x.k y.k), true)
 | [], acc, h => by simp
 | y :: l, acc, h => by
  have h2 := List.pairwise_cons.1 h
  rw [List.foldl_cons]
  by_cases hy : blt y.k x.k = true
  ·rw [step_lt hy, put_fold x l _ h2.2, List.filter_cons_of_pos (by simpa using hy), List.filter_cons_of_neg (by rw [blt_asym hy]; simp)]
   by_cases ha : ∀ z ∈ l, blt z.k x.k = true
   ·rw [if_pos ha, if_pos (fun z hz => (List.mem_cons.1 hz).elim (fun e => e ▸ hy) (ha z)), List.append_assoc]; rfl
   ·rw [if_neg ha, if_neg (fun hb => ha fun z hz => hb z (List.mem_cons_of_mem _ hz))]
    simp only [List.append_assoc, List.singleton_append, List.cons_append, List.nil_append]
  ·have hyf : blt y.k x.k = false := by simpa using hy
   have hgt : ∀ z ∈ l, blt x.k z.k = true := fun z hz => by
    by_cases e : y.k = x.k
    ·rw [← e]; exact h2.1 z hz
    ·exact blt_trans (blt_tot hyf e) (h2.1 z hz)
   have f1 : (l.filter fun z => blt z.k x.k) = [] := List.filter_eq_nil_iff.2 fun z hz => by rw [blt_asym (hgt z hz)]; simp
   have f2 : (l.filter fun z => blt x.k z.k) = l := List.filter_eq_self.2 fun z hz => hgt z hz
   have f3 : (l.filter fun z => decide (¬ z.k = x.k)) = l := List.filter_eq_self.2 fun z hz => decide_eq_true (fun e => blt_ne (hgt z hz) e.symm)
   rw [if_neg (fun hb => hy (hb y List.mem_cons_self)), List.filter_cons_of_neg (by rw [hyf]; simp), f1, List.append_nil]
   by_cases e : y.k = x.k
   ·rw [step_ge hyf, if_pos e, put_after, List.filter_cons_of_neg (by rw [e, blt_irr]; simp), f2, f3, List.append_assoc]; rfl
   ·rw [step_ge hyf, if_neg e, put_after, List.filter_cons_of_pos (by simpa using blt_tot hyf e), f2, f3]
    simp only [List.append_assoc, List.singleton_append, List.cons_append, List.nil_append]
theorem putOf_eq (x : Lf) {l : List Lf} (h : Srt l) : putOf l x = (l.filter fun y => blt y.k x.k) ++ x :: l.filter (fun y => blt x.k y.k) := by
 rw [putOf, putGo, put_fold x l [] h]
 by_cases ha : ∀ z ∈ l, blt z.k x.k = true
 ·rw [if_pos ha, if_neg (by simp)]
  have f1 : (l.filter fun z => blt z.k x.k) = l := List.filter_eq_self.2 fun z hz => ha z hz
  have f2 : (l.filter fun z => blt x.k z.k) = [] := List.filter_eq_nil_iff.2 fun z hz => by rw [blt_asym (ha z hz)]; simp
  rw [f1, f2, List.nil_append]
 ·rw [if_neg ha, if_pos rfl, List.nil_append]
theorem mem_putOf (x : Lf) {l : List Lf} (h : Srt l) (y : Lf) : y ∈ putOf l x ↔ y = x ∨ (y ∈ l ∧ ¬ y.k = x.k) := by
 rw [putOf_eq x h, List.mem_append, List.mem_cons, List.mem_filter, List.mem_filter]
 constructor
 ·rintro (⟨h1, h2⟩ | rfl | ⟨h1, h2⟩)
  ·exact .inr ⟨h1, blt_ne h2⟩
  ·exact .inl rfl
  ·exact .inr ⟨h1, fun e => blt_ne h2 e.symm⟩
 ·rintro (rfl | ⟨h1, h2⟩)
  ·exact .inr (.inl rfl)
  ·by_cases hb : blt y.k x.k = true
   ·exact .inl ⟨h1, hb⟩
   ·exact .inr (.inr ⟨h1, blt_tot (by simpa using hb) h2⟩)
theorem Srt.put (x : Lf) {l : List Lf} (h : Srt l) : Srt (putOf l x) := by
 rw [putOf_eq x h, Srt, List.pairwise_append]
 refine ⟨h.filter _, List.pairwise_cons.2 ⟨fun z hz => (List.mem_filter.1 hz).2, h.filter _⟩, fun a ha b hb => ?_⟩
 have h1 := (List.mem_filter.1 ha).2
 rcases List.mem_cons.1 hb with rfl | hb
 ·exact h1
 ·exact blt_trans h1 (List.mem_filter.1 hb).2
theorem Srt.made (a : List (Int × Int)) : Srt (madeOf a) := by
 have : ∀ (a : List (Int × Int)) (l : List Lf), Srt l → Srt (a.foldl (fun l p => putOf l (lfOf p)) l) := by
  intro a
  induction a with
  | nil => exact fun l h => h
  | cons p a ih => exact fun l h => ih _ (h.put _)
 exact this a [] List.Pairwise.nil
theorem made_mem (a : List (Int × Int)) : ∀ y ∈ madeOf a, ∃ p ∈ a, y = lfOf p := by
 have : ∀ (a : List (Int × Int)) (l : List Lf), Srt l → ∀ y ∈ a.foldl (fun l p => putOf l (lfOf p)) l, y ∈ l ∨ ∃ p ∈ a, y = lfOf p := by
  intro a
  induction a with
  | nil => exact fun l h y hy => .inl hy
  | cons p a ih =>
   intro l h y hy
   rcases ih _ (h.put _) y hy with h1 | ⟨q, h1, h2⟩
   ·rcases (mem_putOf _ h y).1 h1 with rfl | h1
    ·exact .inr ⟨p, List.mem_cons_self, rfl⟩
    ·exact .inl h1.1
   ·exact .inr ⟨q, List.mem_cons_of_mem _ h1, h2⟩
 intro y hy
 rcases this a [] List.Pairwise.nil y hy with h | h
 ·cases h
 ·exact h
def rootOf (l : List Lf) : Sm := hashOf (itemsOf l) 0
theorem path_len (l : List Lf) (k : ByteArray) : (proveOf l k).p.length ≤ 256 := by
 have h : (proveOf l k).p = (wayOf (itemsOf l) (hk k)).1 := by rw [proveOf]; split <;> rfl
 rw [h]
 exact way_len _ _ _ _
theorem way_end_mem {l : List Lf} {k : ByteArray} {z : It} (h : z ∈ (wayOf (itemsOf l) (hk k)).2) : z.x ∈ l ∧ z = itemOf z.x := by
 have h1 := way_mem _ _ _ _ _ h
 rw [itemsOf, List.mem_map] at h1
 obtain ⟨x, h1, rfl⟩ := h1
 exact ⟨h1, rfl⟩
end Go.Proofs.YtanabbjakacgbaaGreatDoor.Sp
namespace Go.Proofs.YtanabbjakacgbaaGreatDoor.Sp
open Go.RowKit Go.Proofs.YtanabbjakacgbaaGreatDoorW.PrintWords Go.Proofs.YtanabbjakacgbaaGreatDoorW.PrintLast Go.Proofs.YtanabbjakacgbaaGreatDoorW.PrintMore Go.Proofs.YtanabbjakacgbaaGreatDoor.PM
set_option linter.unusedVariables false
set_option linter.unusedSimpArgs false
theorem right_long {n : Nat} (h : 256 < n) (k : ByteArray) (e : Int) (l : Lf) : rightB k n e l = false := by
 rw [rightB, show decide (n ≤ 256) = false by simpa using h, Bool.false_and]
theorem itemsOf_half (l : List Lf) (d : Nat) (b : Int) : itemsOf (halfL l d b) = halfOf (itemsOf l) d b := by
 rw [halfL, itemsOf, List.map_map]
 conv => rhs; rw [← List.map_id (halfOf (itemsOf l) d b)]
 apply List.map_congr_left
 intro y hy
 have := (List.mem_filter.1 hy).1
 rw [itemsOf, List.mem_map] at this
 obtain ⟨x, _, rfl⟩ := this
 rfl
end Go.Proofs.YtanabbjakacgbaaGreatDoor.Sp
namespace Go.Proofs.YtanabbjakacgbaaGreatDoor.Sp
open Go.RowKit Go.Proofs.YtanabbjakacgbaaGreatDoorW.PrintWords Go.Proofs.YtanabbjakacgbaaGreatDoorW.PrintLast Go.Proofs.YtanabbjakacgbaaGreatDoorW.PrintMore Go.Proofs.YtanabbjakacgbaaGreatDoor.PM
set_option linter.unusedVariables false
set_option linter.unusedSimpArgs false
set_option maxRecDepth 100000
attribute [local go_sem] Oper.semAt_some
theorem Oct.take {a : List (Int × Int)} (h : Oct a) (n : Nat) : Oct (a.take n) := fun p hp => h p (List.mem_of_mem_take hp)
theorem made_sm (a : List (Int × Int)) (N : Nat) (hN : N ≤ 12) : SmL (madeOf (a.take N)) := by
 refine ⟨?_, fun x hx => ?_⟩
 ·by_cases h : N ≤ a.length
  ·have := madeOf_small h hN; omega
  ·rw [List.take_of_length_le (by omega), show a = a.take a.length by rw [List.take_length]]
   have := madeOf_small (n := a.length) (a := a) (Nat.le_refl _) (by omega); omega
 ·obtain ⟨p, _, rfl⟩ := made_mem _ x hx
  show (keyB p.1).size ≤ 100000
  have : (keyB p.1).size = 4 := rfl
  omega
theorem RootR_calls (l : List Lf) (A : Option Addr) (c : Nat) (w : World) (hW : Words w) (hr : kL.R 32 w 0 (fun _ => True) (.slice A l.length c) l) (hl : SmL l) (r : Sm) (hq : rootOf l = r) :
  Calls Tryz.prog 10 #[.slice A l.length c] w fun e w' => e = .returned (.agg (cS r)) ∧ Below w.heap.size w w' := by
 have h := Rootm_calls l A c w hW (R_C hr).2.2 (R_C hr).2.1 hl
 rw [show hashOf (itemsOf l) 0 = r from hq] at h
 exact h
theorem ProveR_calls (l : List Lf) (k : ByteArray) (A : Option Addr) (c : Nat) (w : World) (hW : Words w) (hr : kL.R 32 w 0 (fun _ => True) (.slice A l.length c) l) (hl : SmL l) (hk1 : k.size ≤ 100000) (p : Pf) (hp : proveOf l k = p) :
  Calls Tryz.prog 13 #[.slice A l.length c, .string k] w fun e w' => ∃ A' c' C, C = cP (.slice A' p.p.length c') p.e p.l ∧ e = .returned (.agg C) ∧ kS.C w' A' p.p.length p.p ∧ Below w.heap.size w w' := by
 have h := Provem_calls l k A c w hW (R_C hr).2.2 (R_C hr).2.1 hl hk1
 rw [hp] at h
 refine h.mono ?_
 rintro e w' ⟨A', c', rfl, h1, _, h3⟩
 exact ⟨A', c', _, rfl, rfl, h1, h3⟩
theorem CheckP_calls {C : Array Value} {A : Option Addr} {c : Nat} {p : Pf} (hC : C = cP (.slice A p.p.length c) p.e p.l) (root : Sm) (k : ByteArray) (hk1 : k.size ≤ 100000) (hl1 : p.l.k.size ≤ 100000) (hlen : p.p.length ≤ 1000000) (w : World) (hW : Words w) (hr : kS.C w A p.p.length p.p) (q : Ck) (hq : ckOf root k p.p p.e p.l = q) :
  Calls Tryz.prog 16 #[.agg (cS root), .string k, .agg C] w fun r w' => r = .returned (.agg (cK q)) ∧ Below w.heap.size w w' := by
 subst hC
 have h := check_calls root k hk1 A p.p c hlen p.e p.l hl1 w hW hr
 rw [hq] at h
 exact h
theorem prove_sm {l : List Lf} (hl : SmL l) (k : ByteArray) : (proveOf l k).l.k.size ≤ 100000 := by
 rw [proveOf]
 by_cases h0 : (wayOf (itemsOf l) (hk k)).2.length = 0
 ·rw [if_pos h0]; show zL.k.size ≤ 100000; decide
 ·rw [if_neg h0]
  exact hl.2 _ (way_end_mem (getD_mem' (z := zI) (by omega))).1
structure PvSt (w0 : World) (A : Option Addr) (c : Nat) (l : List Lf) (g : Nat) (r : Sm) (w : World) : Prop where
 below : Below w0.heap.size w0 w
 words : Words w
 row : kL.R 32 w 0 (fun _ => True) (.slice A l.length c) l
 br : w.heap[g]? = some (.cells (cS r) 30 (0, 0))
theorem PvSt.next {w0 w w' : World} {A : Option Addr} {c g : Nat} {l : List Lf} {r : Sm} (h : PvSt w0 A c l g r w) (hb : Below w.heap.size w w') : PvSt w0 A c l g r w' :=
 ⟨h.below.trans (hb.mono h.below.size), h.words.below hb, Kd.R_below h.row hb, at_next h.br hb⟩
end Go.Proofs.YtanabbjakacgbaaGreatDoor.Sp
namespace Go.Proofs.YtanabbjakacgbaaGreatDoor.Sp
open Go.RowKit Go.Proofs.YtanabbjakacgbaaGreatDoorW.PrintWords Go.Proofs.YtanabbjakacgbaaGreatDoorW.PrintLast Go.Proofs.YtanabbjakacgbaaGreatDoorW.PrintMore Go.Proofs.YtanabbjakacgbaaGreatDoor.PM
set_option linter.unusedVariables false
set_option linter.unusedSimpArgs false
def chL (s : Sm) : List Sm → Nat → Sm → List Hd
 | [], _, _ => []
 | o :: p, d, now => chL s p (d + 1) now ++ [if bitI s d = 1 then nodeD o (upL s p (d + 1) now) else nodeD (upL s p (d + 1) now) o]
def baseS (e : Int) (l : Lf) : Sm := if e = 0 then zS else leafH l
def baseL (e : Int) (l : Lf) : List Hd := if e = 0 then [] else [leafD l]
def chainOf (k : ByteArray) (p : List Sm) (e : Int) (l : Lf) : List Hd := baseL e l ++ chL (hk k) p 0 (baseS e l)
theorem top_eq (k : ByteArray) (p : List Sm) (e : Int) (l : Lf) : topOf k p e l = upL (hk k) p 0 (baseS e l) := rfl
theorem up_node (s o : Sm) (p : List Sm) (d : Nat) (now : Sm) : upL s (o :: p) d now = sumD (if bitI s d = 1 then nodeD o (upL s p (d + 1) now) else nodeD (upL s p (d + 1) now) o) := by
 rw [upL]
 rcases bitI_01 s d with e | e
 ·rw [e, if_pos rfl, if_neg (by decide), sumD_node]
 ·rw [e, if_neg (by decide), if_pos rfl, sumD_node]
end Go.Proofs.YtanabbjakacgbaaGreatDoor.Sp
namespace Go.Proofs.YtanabbjakacgbaaGreatDoor.Sp
open Go.RowKit Go.Proofs.YtanabbjakacgbaaGreatDoorW.PrintWords Go.Proofs.YtanabbjakacgbaaGreatDoorW.PrintLast Go.Proofs.YtanabbjakacgbaaGreatDoorW.PrintMore Go.Proofs.YtanabbjakacgbaaGreatDoor.PM
set_option linter.unusedVariables false
set_option linter.unusedSimpArgs false
set_option maxRecDepth 100000
structure Hx where
 A : Option Addr
 c : Nat
 h : Hd
def cH (x : Hx) : Array Value := #[.int .u8 x.h.t, .slice x.A x.h.ps.length x.c]
def zX : Hx := ⟨none, 0, ⟨0, []⟩⟩
def kH : Kd Hx := flat 2 cH (fun _ => rfl) (fun _ => two_one)
theorem infoX : (Tryz.prog.info? 85).map (fun i => (i.zero, i.size, i.bytes)) = some (some (.agg (cH zX)), 2, 32) := by kernel_rfl
def Kp (b : Nat) (w w1 : World) : Prop := ∀ (k : Nat) (o : Obj), b ≤ k → w.heap[k]? = some o → (∀ cells fr, o ≠ Obj.cells cells 85 fr) → w1.heap[k]? = some o
theorem Kp.trans {b : Nat} {w w1 w2 : World} (h : Kp b w w1) (h2 : Kp b w1 w2) : Kp b w w2 := fun k o hk ho hn => h2 k o hk (h k o hk ho hn) hn
theorem Kp.below {b : Nat} {w w1 : World} (h : Below w.heap.size w w1) : Kp b w w1 := fun k o _ ho _ => (h.block k (Array.getElem?_eq_some_iff.1 ho).1).trans ho
theorem Kp.grown {b : Nat} {w w1 : World} {α : Type} {d : Kd α} {base : Nat} {v : Value} {xs : List α} {ok : Nat → Prop} (hu : d.R 85 w base ok v xs) (hg : w.grownBy w1 v.ownBlock) : Kp b w w1 := fun k o _ ho hn =>
 (hg.block k (Array.getElem?_eq_some_iff.1 ho).1 (fun e1 => by
  obtain ⟨inner, hi⟩ := Kd.R_own hu
  obtain ⟨cells, hc⟩ := own_typed hi k e1.symm
  rw [hc] at ho
  exact hn _ _ (Option.some.inj ho).symm)).trans ho
theorem Kp.row {b g : Nat} {w : World} {cs cells : Array Value} {fr : Nat × Nat} (hg : w.heap[g]? = some (.cells cells 85 fr)) : Kp b w (w.setRow g cs) := fun k o _ ho hn => by
 rw [setRow_other _ _ _ _ (fun e => by rw [e, hg] at ho; exact hn _ _ (Option.some.inj ho).symm)]; exact ho
theorem Kp.low {b g : Nat} {w : World} {cs : Array Value} (hg : g < b) : Kp b w (w.setRow g cs) := fun k o hk ho hn => by
 rw [setRow_other _ _ _ _ (by omega)]; exact ho
def Rub (b : Nat) (w : World) (A : Option Addr) (c : Nat) (ps : List (List Int)) : Prop := ps.length ≤ c ∧ ∀ W : World, Kp b w W → Kd.C (Kd.slice 5 (Kd.int .u8)) W A ps.length ps
theorem Rub.rob {b : Nat} {w : World} {A : Option Addr} {c : Nat} {ps : List (List Int)} (h : Rub b w A c ps) : Rob w A c ps := ⟨h.1, fun W hW => h.2 W (fun k o _ ho hn => hW k o ho hn)⟩
theorem Rub.keep {b : Nat} {w w1 : World} {A : Option Addr} {c : Nat} {ps : List (List Int)} (h : Rub b w A c ps) (hk : Kp b w w1) : Rub b w1 A c ps := ⟨h.1, fun W hW => h.2 W (hk.trans hW)⟩
theorem Rub.lower {b b' : Nat} {w : World} {A : Option Addr} {c : Nat} {ps : List (List Int)} (h : Rub b w A c ps) (hb : b' ≤ b) : Rub b' w A c ps := ⟨h.1, fun W hW => h.2 W (fun k o hk ho hn => hW k o (by omega) ho hn)⟩
def Gd (b : Nat) (w : World) (x : Hx) : Prop := (0 ≤ x.h.t ∧ x.h.t < 256) ∧ Fit x.h.ps ∧ Rub b w x.A x.c x.h.ps
theorem Gd.keep {b : Nat} {w w1 : World} {x : Hx} (h : Gd b w x) (hk : Kp b w w1) : Gd b w1 x := ⟨h.1, h.2.1, h.2.2.keep hk⟩
def Hrow (B b : Nat) (w : World) (v : Value) (hs : List Hd) : Prop := ∃ L : List Hx, kH.R 85 w B (fun _ => True) v L ∧ L.map (·.h) = hs ∧ ∀ x ∈ L, Gd b w x
def Hrd (w : World) (A : Option Addr) (c : Nat) (hs : List Hd) : Prop := hs.length ≤ c ∧ ∃ L : List Hx, kH.C w A hs.length L ∧ L.map (·.h) = hs ∧ ∀ x ∈ L, (0 ≤ x.h.t ∧ x.h.t < 256) ∧ Fit x.h.ps ∧ Rob w x.A x.c x.h.ps
theorem Hrd.below {w w1 : World} {A : Option Addr} {c : Nat} {hs : List Hd} (h : Hrd w A c hs) (hb : Below w.heap.size w w1) : Hrd w1 A c hs := by
 obtain ⟨h1, L, h2, h3, h4⟩ := h
 exact ⟨h1, L, Kd.C_below h2 hb, h3, fun x hx => ⟨(h4 x hx).1, (h4 x hx).2.1, (h4 x hx).2.2.below hb⟩⟩
theorem Hrow.rd {B b : Nat} {w : World} {v : Value} {hs : List Hd} (h : Hrow B b w v hs) : ∃ A c, v = .slice A hs.length c ∧ Hrd w A c hs := by
 obtain ⟨L, h1, h2, h3⟩ := h
 obtain ⟨A, c, rfl, h4, h5⟩ := Kd.R_reads h1
 have hl : L.length = hs.length := by rw [← h2, List.length_map]
 rw [hl] at h4 h5 ⊢
 exact ⟨A, c, rfl, h4, L, h5, h2, fun x hx => ⟨(h3 x hx).1, (h3 x hx).2.1, (h3 x hx).2.2.rob⟩⟩
theorem Hrow.below {B b : Nat} {w w1 : World} {v : Value} {hs : List Hd} (h : Hrow B b w v hs) (hb : Below w.heap.size w w1) : Hrow B b w1 v hs := by
 obtain ⟨L, h1, h2, h3⟩ := h
 exact ⟨L, Kd.R_below h1 hb, h2, fun x hx => (h3 x hx).keep (Kp.below hb)⟩
theorem Hrow.low {B b g : Nat} {w : World} {v : Value} {hs : List Hd} (h : Hrow B b w v hs) (h1 : g < B) (h2 : g < b) (cs : Array Value) : Hrow B b (w.setRow g cs) v hs := by
 obtain ⟨L, h3, h4, h5⟩ := h
 exact ⟨L, R_setRow h3 h1 cs, h4, fun x hx => (h5 x hx).keep (Kp.low h2)⟩
theorem Hrd.at {w : World} {A : Option Addr} {c : Nat} {hs : List Hd} (h : Hrd w A c hs) (i : Nat) (hi : i < hs.length) : ∃ ad x, A = some ad ∧ hs.getD i ⟨0, []⟩ = x.h ∧ (∀ j u, (cH x).toList[j]? = some u → w.cell? ((ad.add (i * 2)).add j) = some u) ∧ (0 ≤ x.h.t ∧ x.h.t < 256) ∧ Fit x.h.ps ∧ Rob w x.A x.c x.h.ps := by
 obtain ⟨_, L, h2, h3, h4⟩ := h
 obtain ⟨ad, e, hc⟩ := at_flat h2 zX (i : Int) (by omega) (by omega)
 rw [Int.toNat_natCast] at hc
 have hl : L.length = hs.length := by rw [← h3, List.length_map]
 refine ⟨ad, L.getD i zX, e, ?_, hc, ?_⟩
 ·rw [← h3, List.getD_eq_getElem?_getD, List.getD_eq_getElem?_getD, List.getElem?_map, List.getElem?_eq_getElem (by omega)]; rfl
 ·refine h4 _ ?_
  rw [List.getD_eq_getElem?_getD, List.getElem?_eq_getElem (by omega)]
  exact List.getElem_mem _
section
variable {ops : Array Oper} {rest : List Oper} {o : Oper} {a : Act} {Q : Exit → Act → World → Prop} {w wa W : World}
theorem bs0_H (hg : o.guard = none) (ho : o.op = .buildSlice 81 0 #[]) {N : Tmp} (hN : o.dst = some N) (B b : Nat) (HB : Below B wa W) (hB : B ≤ W.heap.size) (h : ∀ v1 w1, Hrow B b w1 v1 [] → Below B wa w1 → W.heap.size ≤ w1.heap.size → wpList Tryz.prog ops Q rest (a.put o.dst v1) w1) : wpList Tryz.prog ops Q (o :: rest) a W :=
 wpList_bs0 kH hg 81 85 ho hN 2 32 _ Tryz.underlying81 infoX B HB hB (fun v1 w1 h1 h2 h3 => h v1 w1 ⟨[], h1, rfl, fun _ hx => by cases hx⟩ h2 h3)
theorem bs1_H (hg : o.guard = none) (x : Operand) (ho : o.op = .buildSlice 81 1 #[(0, x)]) (p : Hx) (hx : a.eval x = .agg (cH p)) (h : wpList Tryz.prog ops Q rest (a.put o.dst (.slice (some ⟨w.heap.size, 0, none⟩) 1 1)) (w.alloc (.cells (cH p) 85))) : wpList Tryz.prog ops Q (o :: rest) a w :=
 wpList_bs1 hg 81 85 x ho _ hx 2 32 _ Tryz.underlying81 infoX rfl (by decide) (by decide) h
theorem app_H (hg : o.guard = none) (s x : Operand) (ho : o.op = .call { callee := .builtin .append, args := #[s, x], argTypes := #[81, 81] }) (v : Value) (hs : List Hd) (p : Hx) (hs' : a.eval s = v) (hx : a.eval x = .slice (some ⟨W.heap.size, 0, none⟩) 1 1) (B b : Nat) (HO : Hrow B b W v hs) (hp : Gd b W p) (HB : Below B wa W) (hB : B ≤ W.heap.size) (hl : hs.length ≤ 1000000)
  (h : ∀ v1 w1, Hrow B b w1 v1 (hs ++ [p.h]) → Below B wa w1 → Kp 0 W w1 → W.heap.size ≤ w1.heap.size → (∀ k, k < W.heap.size → (some k ≠ v.ownBlock) → w1.heap[k]? = W.heap[k]?) → wpList Tryz.prog ops Q rest (a.put o.dst v1) w1) : wpList Tryz.prog ops Q (o :: rest) a (W.alloc (.cells (cH p) 85)) := by
 obtain ⟨L, h1, h2, h3⟩ := HO
 have hll : L.length = hs.length := by rw [← h2, List.length_map]
 have h9 := Kd.R_append kH (P := Tryz.prog) (w0 := wa) (W := W) (ops := ops) (rest := rest) (o := o) (a := a) (Q := Q) B hg s x 81 85 (.agg (cH zX)) 32 ho Tryz.underlying81 infoX rfl (by decide) (by decide) v L p (cH p).toList (fun _ => True) (fun _ => False) hs' hx rfl (fun _ hk => hk.elim) (fun _ _ => trivial) h1 HB hB (by omega) (fun v1 w1 k1 k2 k3 _ => h v1 w1 ⟨L ++ [p], k1, by rw [List.map_append, h2]; rfl, fun y hy => by
  rcases List.mem_append.1 hy with hy | hy
  ·exact (h3 y hy).keep (Kp.grown h1 k3)
  ·obtain rfl := List.mem_singleton.1 hy; exact hp.keep (Kp.grown h1 k3)⟩ k2 (Kp.grown h1 k3) k3.size (fun k hk hne => k3.block k hk (fun e => hne e)))
 rwa [Array.toArray_toList] at h9
end
set_option maxHeartbeats 4000000 in
theorem node4b_calls (p q : Sm) (w : World) :
  Calls Tryz.prog 50 #[.agg (cS p), .agg (cS q)] w fun e w' => ∃ A c, e = .returned (.agg #[.int .u8 78, .slice A 2 c]) ∧ Rub w.heap.size w' A c [p.b, q.b] ∧ Below w.heap.size w w' := by
 have hu91 := Tryz.underlying85
 obtain ⟨g, hg⟩ : ∃ g, g = w.heap.size := ⟨_, rfl⟩
 obtain ⟨wb, hwb⟩ : ∃ wb, wb = ((w.alloc (.cells (cS p) 30)).alloc (.cells (cS q) 30)).alloc (.cells #[.int .u8 0, .slice none 0 0] 85) := ⟨_, rfl⟩
 have h0 : wb.heap[g]? = some (.cells (cS p) 30 (0, 0)) := by rw [hwb, h_old (by simp only [size_alloc]; omega), h_old (by simp only [size_alloc]; omega)]; exact h_new hg
 have h1 : wb.heap[g + 1]? = some (.cells (cS q) 30 (0, 0)) := by rw [hwb, h_old (by simp only [size_alloc]; omega)]; exact h_new (by rw [size_alloc, hg])
 have h2 : wb.heap[g + 2]? = some (.cells #[.int .u8 0, .slice none 0 0] 85 (0, 0)) := by rw [hwb]; exact h_new (by rw [size_alloc, size_alloc, hg])
 have hb : Below w.heap.size w wb := by rw [hwb]; exact below_alloc (below_alloc (below_alloc (Below.refl _ _) _) _) _
 have hs : wb.heap.size = g + 3 := by rw [hwb, size_alloc, size_alloc, size_alloc, hg]
 have HB := Aside0.mk (⟨h0, h1, h2, hb, hs⟩ : _ ∧ _ ∧ _ ∧ _ ∧ _)
 have HWB := Aside0.mk hwb.symm
 clear h0 h1 h2 hb hs hwb
 have HG := Aside0.mk hg
 clear hg
 go_enter Tryz.func50, Tryz.ntmps50
 go_wp2
 rw [HWB.out, ← HG.out]
 refine start_ (n := 5) (S := fun w' => True) (ds := [2, 3, 4]) #[false, false, false, false, false] (by kernel_rfl) rfl rfl trivial (fun hHeld => ?_)
 refine pure_ (i := 0) (N := some 5) (v := ?_) (a' := ?_) #[true, false, false, false, false] rfl rfl (by kernel_rfl) (fun _ _ _ h => h) (Or.inl ⟨by rfl, ?_⟩) ?_ ?_
 rotate_left
 ·intro w'
  go_simp
  with_reducible rfl
 rotate_left
 ·simp only [Act.put, lZa, lZb, lZc, i64_w, i32_w]
  rfl
 refine pure_ (i := 1) (N := some 6) (v := ?_) (a' := ?_) #[true, true, false, false, false] rfl rfl (by kernel_rfl) (fun _ _ _ h => h) (Or.inl ⟨by rfl, ?_⟩) ?_ ?_
 rotate_left
 ·intro w'
  go_simp
  with_reducible rfl
 rotate_left
 ·simp only [Act.put, lZa, lZb, lZc, i64_w, i32_w]
  rfl
 refine tail_ 2 (by kernel_rfl) ?_
 simp only [List.toList_toArray, List.drop_succ_cons, List.drop_zero]
 refine bs2 rfl (.tmp 5) (.tmp 6) rfl (some ⟨g, 0, none⟩) 32 32 (some ⟨g + 1, 0, none⟩) 32 32 rfl rfl ?_
 obtain ⟨wc, hwc⟩ : ∃ wc, wc = (wb.drew.alloc (Obj.cells #[Value.slice (some ⟨g, 0, none⟩) 32 32, Value.slice (some ⟨g + 1, 0, none⟩) 32 32] 53)) := ⟨_, rfl⟩
 rw [← hwc]
 have hbc : Below wb.heap.size wb wc := (by rw [hwc]; exact (below_alloc (Below.refl _ _).drew _))
 have hgc : wc.heap[wb.heap.size]? = some (Obj.cells #[Value.slice (some ⟨g, 0, none⟩) 32 32, Value.slice (some ⟨g + 1, 0, none⟩) 32 32] 53 (0, 0)) := (by rw [hwc]; exact h_new rfl)
 clear hwc
 have HC := Aside0.mk (And.intro hbc hgc)
 clear hbc hgc
 refine wpList_built rfl 85 _ rfl #[.int .u8 78, .slice (some ⟨wb.heap.size, 0, none⟩) 2 2] (by kernel_rfl) ?_
 refine wpList_store_row rfl 85 (.tmp 4) (.tmp 8) rfl (g + 2) #[.int .u8 78, .slice (some ⟨wb.heap.size, 0, none⟩) 2 2] rfl rfl 85 #[.int .u8 0, .slice none 0 0] ((HC.out.1.block _ (by have := HB.out.2.2.2.2; omega)).trans HB.out.2.2.1) ?g3 ?g4 (all_one two_one) ?_
 case g3 => kernel_rfl
 case g4 => rfl
 go_wp2
 have hg1 := (HC.out.1.block (g + 2) (by have := HB.out.2.2.2.2; omega)).trans HB.out.2.2.1
 refine bodyPost_ret (v := .agg #[.int .u8 78, .slice (some ⟨wb.heap.size, 0, none⟩) 2 2]) ?_ rfl ⟨_, _, rfl, ?_, below_setRow (HB.out.2.2.2.1.trans (HC.out.1.mono (by have := HB.out.2.2.2.2; have := HG.out; omega))) (by have := HG.out; omega)⟩
 ·exact results_cell_row rfl _ _ (g + 2) 85 _ (0, 0) _ rfl (setRow_heap _ _ _ _ _ _ hg1) hu91 rfl (by kernel_rfl)
 ·refine ⟨by simp, fun W hW => ?_⟩
  have k0 := hW g _ (by have := HG.out; omega) ((setRow_other _ _ _ _ (by omega)).trans ((HC.out.1.block g (by have := HB.out.2.2.2.2; omega)).trans HB.out.1)) (fun _ _ e => by injection e with _ e; revert e; decide)
  have k1 := hW (g + 1) _ (by have := HG.out; omega) ((setRow_other _ _ _ _ (by omega)).trans ((HC.out.1.block (g + 1) (by have := HB.out.2.2.2.2; omega)).trans HB.out.2.1)) (fun _ _ e => by injection e with _ e; revert e; decide)
  have k2 := hW wb.heap.size _ (by have := HG.out; have := HB.out.2.2.2.2; omega) ((setRow_other _ _ _ _ (by have := HB.out.2.2.2.2; omega)).trans HC.out.2) (fun _ _ e => by injection e with _ e; revert e; decide)
  exact two_rows (p1 := p.b) (p2 := q.b) (by rw [p.h, q.h]; exact k2) (sum_C (row_cells k0)) (by rw [p.h]; omega) (sum_C (row_cells k1)) (by rw [q.h]; omega)
set_option maxHeartbeats 4000000 in
theorem leaf4b_calls (x : Lf) (hk1 : x.k.size ≤ 100000) (w : World) :
  Calls Tryz.prog 49 #[.agg (cL x)] w fun e w' => ∃ A c, e = .returned (.agg #[.int .u8 76, .slice A 2 c]) ∧ Rub w.heap.size w' A c [bytesOf x.k, x.v.b] ∧ Below w.heap.size w w' := by
 have hu91 := Tryz.underlying85
 obtain ⟨g, hg⟩ : ∃ g, g = w.heap.size := ⟨_, rfl⟩
 obtain ⟨wb, hwb⟩ : ∃ wb, wb = (w.alloc (.cells (cL x) 32)).alloc (.cells #[.int .u8 0, .slice none 0 0] 85) := ⟨_, rfl⟩
 have h0 : wb.heap[g]? = some (.cells (cL x) 32 (0, 0)) := by rw [hwb, h_old (by simp only [size_alloc]; omega)]; exact h_new hg
 have h1 : wb.heap[g + 1]? = some (.cells #[.int .u8 0, .slice none 0 0] 85 (0, 0)) := by rw [hwb]; exact h_new (by rw [size_alloc, hg])
 have hb : Below w.heap.size w wb := by rw [hwb]; exact below_alloc (below_alloc (Below.refl _ _) _) _
 have hs : wb.heap.size = g + 2 := by rw [hwb, size_alloc, size_alloc, hg]
 have hcx := cell_L0 h0
 have HB := Aside0.mk (⟨h0, h1, hb, hs, hcx⟩ : _ ∧ _ ∧ _ ∧ _ ∧ _)
 have HWB := Aside0.mk hwb.symm
 clear h0 h1 hb hs hwb hcx
 have HG := Aside0.mk hg
 clear hg
 go_enter Tryz.func49, Tryz.ntmps49
 go_wp2
 rw [HWB.out, ← HG.out]
 refine start_ (n := 8) (S := fun w' => Below wb.heap.size wb w') (ds := [5, 6, 7]) #[false, false, false, false, false, false, false, false] (by kernel_rfl) rfl rfl (Below.refl _ _).drew (fun hHeld => ?_)
 refine pure_ (i := 0) (N := some 3) (v := ?_) (a' := ?_) #[true, false, false, false, false, false, false, false] rfl rfl (by kernel_rfl) (fun _ _ _ h => h) (Or.inl ⟨by rfl, ?_⟩) ?_ ?_
 rotate_left
 ·intro w'
  go_simp
  with_reducible rfl
 rotate_left
 ·simp only [Act.put, lZa, lZb, lZc, i64_w, i32_w]
  rfl
 refine take_ (i := 1) (N := some 4) (v := ?_) (a' := ?_) #[true, true, false, false, false, false, false, false] rfl rfl (by kernel_rfl) (fun _ _ _ h => h) (Or.inl ⟨by rfl, ?_⟩) hHeld ?_ ?_
 rotate_left
 ·intro w' hS
  have hx := (hS.cell (World.block_lt_of_cell? _ _ HB.out.2.2.2.2)).trans HB.out.2.2.2.2
  go_simp
  with_reducible rfl
 rotate_left
 ·simp only [Act.put, lZa, lZb, lZc, i64_w, i32_w]
  rfl
 refine pure_ (i := 3) (N := some 6) (v := ?_) (a' := ?_) #[true, true, false, true, false, false, false, false] rfl rfl (by kernel_rfl) (fun _ _ _ h => h) (Or.inl ⟨by rfl, ?_⟩) ?_ ?_
 rotate_left
 ·intro w'
  go_simp
  with_reducible rfl
 rotate_left
 ·simp only [Act.put, lZa, lZb, lZc, i64_w, i32_w]
  rfl
 refine pure_ (i := 4) (N := some 7) (v := ?_) (a' := ?_) #[true, true, false, true, true, false, false, false] rfl rfl (by kernel_rfl) (fun _ _ _ h => h) (Or.inl ⟨by rfl, ?_⟩) ?_ ?_
 rotate_left
 ·intro w'
  go_simp
  with_reducible rfl
 rotate_left
 ·simp only [Act.put, lZa, lZb, lZc, i64_w, i32_w]
  rfl
 refine one_ (i := 2) (N := some 5) #[true, true, true, true, true, false, false, false] rfl rfl (by kernel_rfl) (by decide) (fun K hK => ?_)
 refine value_ (by rfl) rfl (str_value _ rfl x.k rfl Tryz.underlying9 Tryz.underlying53 Tryz.underlying5) ?_
 refine hK.out _ _ (below_tr hHeld (bytes_below' _ _) hHeld.size) (fun hHeld => ?_)
 clear hK K
 refine norm_ (a' := ?_) ?_ ?_
 rotate_left
 ·show Act.put _ (some 5) _ = _
  simp only [Act.put, lZa, lZb, lZc, i64_w, i32_w]
  rfl
 refine tail_ 5 (by kernel_rfl) ?_
 simp only [List.toList_toArray, List.drop_succ_cons, List.drop_zero]
 have hcs := string_C (W := wb.drew) (s := x.k) (by omega)
 have hcap := grownCap_ge wb.drew x.k.size 0 5
 have hsz : (Lib.bytesWorld wb.drew 5 x.k).heap.size = g + 3 := by rw [Lib.bytesWorld_size]; show wb.heap.size + 1 = _; rw [HB.out.2.2.2.1]
 have hcs : Kd.C (Kd.int .u8) (Lib.bytesWorld wb.drew 5 x.k) (some ⟨wb.heap.size, 0, none⟩) (bytesOf x.k).length (bytesOf x.k) := hcs
 have hby : ∃ cells fr, (Lib.bytesWorld wb.drew 5 x.k).heap[wb.heap.size]? = some (.cells cells 5 fr) := ⟨_, _, Lib.bytesWorld_at_new wb.drew 5 x.k⟩
 obtain ⟨cap, hcp⟩ : ∃ cap, cap = grownCap wb.drew x.k.size 0 5 := ⟨_, rfl⟩
 rw [← hcp] at hcap ⊢
 clear hcp
 rename_i _ hHeld0
 generalize Lib.bytesWorld wb.drew 5 x.k = wd at hcs hsz hHeld hby ⊢
 obtain ⟨bcs, bfr, hby⟩ := hby
 refine bs2 rfl (.tmp 5) (.tmp 7) rfl (some ⟨wb.heap.size, 0, none⟩) x.k.size cap (some ⟨g, 1, none⟩) 32 32 rfl rfl ?_
 obtain ⟨wc, hwc⟩ : ∃ wc, wc = wd.alloc (Obj.cells #[Value.slice (some ⟨wb.heap.size, 0, none⟩) x.k.size cap, Value.slice (some ⟨g, 1, none⟩) 32 32] 53) := ⟨_, rfl⟩
 rw [← hwc]
 have hbc : Below wd.heap.size wd wc := (by rw [hwc]; exact below_alloc (Below.refl _ _) _)
 have hgc : wc.heap[wd.heap.size]? = some (Obj.cells #[Value.slice (some ⟨wb.heap.size, 0, none⟩) x.k.size cap, Value.slice (some ⟨g, 1, none⟩) 32 32] 53 (0, 0)) := (by rw [hwc]; exact h_new rfl)
 clear hwc
 have hbw := below_tr hHeld hbc hHeld.size
 have hbyc := (hbc.block wb.heap.size (by have := HB.out.2.2.2.1; omega)).trans hby
 have h0c := (hbw.block g (by have := HB.out.2.2.2.1; omega)).trans HB.out.1
 have h1c := (hbw.block (g + 1) (by have := HB.out.2.2.2.1; omega)).trans HB.out.2.1
 have HC := Aside0.mk (⟨Kd.C_below hcs hbc, hcap, hsz, hgc, hbyc, h0c, h1c, hbw⟩ : _ ∧ _ ∧ _ ∧ _ ∧ _ ∧ _ ∧ _ ∧ _)
 clear hcs hcap hsz hbc hgc hby hbyc h0c h1c hbw
 refine wpList_built rfl 85 _ rfl #[.int .u8 76, .slice (some ⟨wd.heap.size, 0, none⟩) 2 2] (by kernel_rfl) ?_
 refine wpList_store_row rfl 85 (.tmp 2) (.tmp 9) rfl (g + 1) #[.int .u8 76, .slice (some ⟨wd.heap.size, 0, none⟩) 2 2] rfl rfl 85 #[.int .u8 0, .slice none 0 0] HC.out.2.2.2.2.2.2.1 ?g3 ?g4 (all_one two_one) ?_
 case g3 => kernel_rfl
 case g4 => rfl
 go_wp2
 refine bodyPost_ret (v := .agg #[.int .u8 76, .slice (some ⟨wd.heap.size, 0, none⟩) 2 2]) ?_ rfl ⟨_, _, rfl, ?_, below_setRow (HB.out.2.2.1.trans (HC.out.2.2.2.2.2.2.2.mono (by have := HB.out.2.2.2.1; have := HG.out; omega))) (by have := HG.out; omega)⟩
 ·exact results_cell_row rfl _ _ (g + 1) 85 _ (0, 0) _ rfl (setRow_heap _ _ _ _ _ _ HC.out.2.2.2.2.2.2.1) hu91 rfl (by kernel_rfl)
 ·refine ⟨by simp, fun W hW => ?_⟩
  have k0 := hW g _ (by have := HG.out; omega) ((setRow_other _ _ _ _ (by omega)).trans HC.out.2.2.2.2.2.1) (fun _ _ e => by injection e with _ e; revert e; decide)
  have k1 := hW wb.heap.size _ (by have := HG.out; have := HB.out.2.2.2.1; omega) ((setRow_other _ _ _ _ (by have := HB.out.2.2.2.1; omega)).trans HC.out.2.2.2.2.1) (fun _ _ e => by injection e with _ e; revert e; decide)
  have k2 := hW wd.heap.size _ (by have := HG.out; have := HC.out.2.2.1; omega) ((setRow_other _ _ _ _ (by have := HC.out.2.2.1; omega)).trans HC.out.2.2.2.1) (fun _ _ e => by injection e with _ e; revert e; decide)
  exact two_rows (p1 := bytesOf x.k) (p2 := x.v.b) (by rw [bytesOf_length, x.v.h]; exact k2) (C_blk HC.out.1 (k1.trans HC.out.2.2.2.2.1.symm)) (by rw [bytesOf_length]; exact HC.out.2.1) (sum_C (at_L1 (row_cells k0))) (by rw [x.v.h]; omega)
end Go.Proofs.YtanabbjakacgbaaGreatDoor.Sp
namespace Go.Proofs.YtanabbjakacgbaaGreatDoor.Sp
open Go.RowKit Go.Proofs.YtanabbjakacgbaaGreatDoorW.PrintWords Go.Proofs.YtanabbjakacgbaaGreatDoorW.PrintLast Go.Proofs.YtanabbjakacgbaaGreatDoorW.PrintMore Go.Proofs.YtanabbjakacgbaaGreatDoor.PM
set_option linter.unusedVariables false
set_option linter.unusedSimpArgs false
set_option maxRecDepth 100000
attribute [local go_sem] Oper.semAt_some
end Go.Proofs.YtanabbjakacgbaaGreatDoor.Sp
namespace Go.Proofs.YtanabbjakacgbaaGreatDoor.Sp
open Go.RowKit Go.Proofs.YtanabbjakacgbaaGreatDoorW.PrintWords Go.Proofs.YtanabbjakacgbaaGreatDoorW.PrintLast Go.Proofs.YtanabbjakacgbaaGreatDoorW.PrintMore Go.Proofs.YtanabbjakacgbaaGreatDoor.PM
set_option linter.unusedVariables false
set_option linter.unusedSimpArgs false
set_option maxRecDepth 100000
attribute [local go_sem] Oper.semAt_some
theorem Fit.at {ps : List (List Int)} (h : Fit ps) (n : Nat) : ∀ b ∈ ps.getD n [], 0 ≤ b ∧ b < 256 := by
 by_cases hn : n < ps.length
 ·rw [List.getD_eq_getElem?_getD, List.getElem?_eq_getElem hn]
  exact (h.2 _ (List.getElem_mem hn)).2
 ·rw [List.getD_eq_getElem?_getD, List.getElem?_eq_none (by omega)]
  intro b hb
  cases hb
end Go.Proofs.YtanabbjakacgbaaGreatDoor.Sp
namespace Go.Proofs.YtanabbjakacgbaaGreatDoor.Sp
open Go.RowKit Go.Proofs.YtanabbjakacgbaaGreatDoorW.PrintWords Go.Proofs.YtanabbjakacgbaaGreatDoorW.PrintLast Go.Proofs.YtanabbjakacgbaaGreatDoorW.PrintMore Go.Proofs.YtanabbjakacgbaaGreatDoor.PM
set_option linter.unusedVariables false
set_option linter.unusedSimpArgs false
set_option maxRecDepth 100000
attribute [local go_sem] Oper.semAt_some
theorem le_H {w w' : World} {ad : Addr} {x : Hx} (hc : ∀ j u, (cH x).toList[j]? = some u → w.cell? (ad.add j) = some u) (hb : Below w.heap.size w w') (m : Nat) : (loadVar 85 ad).run Tryz.prog (w'.drewN m) = .ok (.agg (cH x)) (w'.drewN m) :=
 load_el hc hb 85 Tryz.underlying85 rfl (by kernel_rfl) m
def zD : Hd := ⟨0, []⟩
theorem sumX_calls {C : Array Value} {x : Hx} (hC : C = cH x) (ht : 0 ≤ x.h.t ∧ x.h.t < 256) (hf : Fit x.h.ps) (w : World) (hr : Rob w x.A x.c x.h.ps) (s : Sm) (hs : sumD x.h = s) :
  Calls Tryz.prog 41 #[.agg C] w fun e w' => e = .returned (.agg (cS s)) ∧ Below w.heap.size w w' := by
 subst hC hs
 exact sum4_calls x.h ht hf x.A x.c w hr
end Go.Proofs.YtanabbjakacgbaaGreatDoor.Sp
namespace Go.Proofs.YtanabbjakacgbaaGreatDoor.Grow
open Go Go.RowKit Go.Proofs.YtanabbjakacgbaaGreatDoorW.PrintWords Go.Proofs.YtanabbjakacgbaaGreatDoorW.PrintLast
set_option linter.unusedVariables false
set_option linter.unusedSimpArgs false
section
variable {P : Program} {ops : Array Oper} {Q : Exit → Act → World → Prop} {S : World → Prop} {ds : List Nat}
theorem getD_same {a b : Array Bool} {j : Nat} {d : Bool} (h : a[j]? = b[j]?) : a.getD j d = b.getD j d := by
 rw [Array.getD_eq_getD_getElem?, Array.getD_eq_getD_getElem?, h]
end
end Go.Proofs.YtanabbjakacgbaaGreatDoor.Grow
namespace Go.Proofs.YtanabbjakacgbaaGreatDoor.Grow
open Go Go.RowKit Go.Proofs.YtanabbjakacgbaaGreatDoorW.PrintWords Go.Proofs.YtanabbjakacgbaaGreatDoorW.PrintLast
set_option linter.unusedVariables false
set_option linter.unusedSimpArgs false
end Go.Proofs.YtanabbjakacgbaaGreatDoor.Grow
namespace Go.Proofs.YtanabbjakacgbaaGreatDoor.Grow
open Go Go.RowKit Go.Proofs.YtanabbjakacgbaaGreatDoorW.PrintWords Go.Proofs.YtanabbjakacgbaaGreatDoorW.PrintLast
set_option linter.unusedVariables false
set_option linter.unusedSimpArgs false
section
variable {P : Program} {ops : Array Oper} {Q : Exit → Act → World → Prop} {S : World → Prop} {ds : List Nat}
def growNB (ops : Array Oper) (n : Nat) (l0 l1 : Array Bool) : Bool :=
 decide (n < ops.size) && decide (l0.size = ops.size) && decide (l1.size = ops.size) &&
 ((List.range n).all fun i => l0.getD i true || match ops[i]? with
  | some o => o.dst.isSome && o.guard.isNone && (o.after.all fun e => !Region.binds .any e || l0.getD e.on false || decide (e.on < i))
  | none => false) &&
 ((List.range n).all fun i => (List.range n).all fun k => decide (i = k) || decide (dstN ops i ≠ dstN ops k)) &&
 ((List.range ops.size).all fun i => decide (i < n) || l0.getD i true || (List.range n).all fun j => l0.getD j true || Region.reachB .any ops j 8 i) && Region.closedB .any ops l0 &&
 ((List.range ops.size).all fun i => l1.getD i false == (decide (i < n) || l0.getD i false))
structure GrowN (ops : Array Oper) (n : Nat) (l0 l1 : Array Bool) : Prop where
 lt : n < ops.size
 sz : l0.size = ops.size
 sz1 : l1.size = ops.size
 at_ : ∀ i, i < n → l0.getD i true = false → ∃ o, ops[i]? = some o ∧ o.dst = some (dstN ops i) ∧ o.guard = none ∧ (∀ e ∈ o.after, Region.binds .any e = true → l0.getD e.on false = true ∨ e.on < i)
 dis : ∀ j k, j < n → k < n → dstN ops j = dstN ops k → j = k
 wait : ∀ i, i < ops.size → l0.getD i true = false → ¬ i < n → ∀ j, j < n → l0.getD j true = false → Region.reachB .any ops j 8 i = true
 closed : ListedClosed .any ops l0
 fin : ∀ i, i < ops.size → l1.getD i false = (decide (i < n) || l0.getD i false)
theorem growNB_spec {n : Nat} {l0 l1 : Array Bool} (h : growNB ops n l0 l1 = true) : GrowN ops n l0 l1 := by
 simp only [growNB, Bool.and_eq_true, decide_eq_true_eq, List.all_eq_true, List.mem_range, Bool.or_eq_true, beq_iff_eq] at h
 obtain ⟨⟨⟨⟨⟨⟨⟨h1, h2⟩, h3⟩, h4⟩, h5⟩, h6⟩, h8⟩, h7⟩ := h
 refine ⟨h1, h2, h3, fun i hi hu => ?_, fun j k hj hk e => ?_, fun i hi hu hn j hj huj => ?_, Region.closedB_spec h8, fun i hi => h7 i hi⟩
 ·rcases h4 i hi with h | h
  ·rw [hu] at h; cases h
  ·cases ho : ops[i]? with
   | none => rw [ho] at h; cases h
   | some o =>
    rw [ho] at h
    simp only [Bool.and_eq_true] at h
    obtain ⟨⟨a, b⟩, c⟩ := h
    obtain ⟨N, hN⟩ := Option.isSome_iff_exists.1 a
    refine ⟨o, rfl, by simp [dstN, ho, hN], Option.isNone_iff_eq_none.1 b, fun e he hb => ?_⟩
    have := Array.all_eq_true_iff_forall_mem.1 c e he
    rw [hb] at this
    simpa using this
 ·rcases h5 j hj k hk with h | h
  ·exact h
  ·exact absurd e h
 ·rcases h6 i hi with (h | h) | h
  ·exact absurd h hn
  ·rw [hu] at h; cases h
  ·rcases h j hj with h | h
   ·rw [huj] at h; cases h
   ·exact h
theorem last_of_grow3 {n fe : Nat} {l0 l1 : Array Bool} (G : GrowN ops n l0 l1) {a0 : Act} {w0 : World} (v0 : Nat → Value) (F : Nat → Value → World → Prop) (M : Nat → Bool) (hS : ∀ w, Below w0.heap.size w0 w → S w) (hmono : ∀ i v w w', F i v w → Below w.heap.size w w' → F i v w')
  (hstep : ∀ i o, i < n → l0.getD i true = false → ops[i]? = some o → ∀ vs w, (∀ j, j < n → l0.getD j true = true → vs j = v0 j) → Below w0.heap.size w0 w → (∀ e ∈ o.after, Region.binds .any e = true → e.on < i → l0.getD e.on true = false → F e.on (vs e.on) w) → ∀ K : Act → World → Prop, (∀ v w', F i v w' → Below w.heap.size w w' → (M i = true → ∀ b, blk v = some b → w.heap.size ≤ b ∧ b < w'.heap.size) → K ((ap ops n a0 vs).put o.dst v) w') → o.wp P (ap ops n a0 vs) w K Q)
  (hend : ∀ vs w, (∀ j, j < n → l0.getD j true = true → vs j = v0 j) → Below w0.heap.size w0 w → (∀ i, i < n → l0.getD i true = false → F i (vs i) w) → (∀ i j, i < n → l0.getD i true = false → j < n → l0.getD j true = false → i ≠ j → M i = true → M j = true → ∀ b, blk (vs i) = some b → blk (vs j) ≠ some b) → wpAnyLast P .any ops Q S ds fe l1 (ap ops n a0 vs) w) :
  ∀ (f : Nat) (l : Array Bool) (vs : Nat → Value) (w : World), (List.range n).countP (fun i => !l.getD i false) = f → l.size = ops.size → ListedClosed .any ops l → (∀ j, ¬ (j < n ∧ l0.getD j true = false) → l[j]? = l0[j]?) → (∀ j, j < n → l0.getD j true = true → vs j = v0 j) → (∀ i, i < n → l0.getD i true = false → l.getD i false = true → F i (vs i) w) → Below w0.heap.size w0 w →
   (∀ i, i < n → l0.getD i true = false → l.getD i false = true → M i = true → ∀ b, blk (vs i) = some b → b < w.heap.size) → (∀ i j, i < n → l0.getD i true = false → j < n → l0.getD j true = false → l.getD i false = true → l.getD j false = true → i ≠ j → M i = true → M j = true → ∀ b, blk (vs i) = some b → blk (vs j) ≠ some b) →
   wpAnyLast P .any ops Q S ds (f + fe) l (ap ops n a0 vs) w := by
 intro f
 induction f with
 | zero =>
  intro l vs w hf hsz hcl hl hv hF hb hD1 hD2
  have hall : ∀ i, i < n → l.getD i false = true := fun i hi => by
   have := List.countP_eq_zero.1 hf i (List.mem_range.2 hi)
   simpa using this
  have e : l = l1 := by
   apply Array.ext (hsz.trans G.sz1.symm)
   intro i h1 h2
   have h3 : i < ops.size := by omega
   have h4 := G.fin i h3
   have h5 : l.getD i false = l1.getD i false := by
    rw [h4]
    by_cases hi : i < n
    ·rw [hall i hi]; simp [hi]
    ·rw [getD_same (hl i (fun h => hi h.1)), decide_eq_false hi, Bool.false_or]
   simpa [h1, h2] using h5
  subst e
  rw [Nat.zero_add]
  exact hend vs w hv hb (fun i hi hu => hF i hi hu (hall i hi)) (fun i j hi hui hj huj => hD2 i j hi hui hj huj (hall i hi) (hall j hj))
 | succ f ih =>
  intro l vs w hf hsz hcl hl hv hF hb hD1 hD2
  have hsz2 : ∀ i, i < n → i < l.size := fun i hi => by rw [hsz]; have := G.lt; omega
  have hdone : ∀ j, l0.getD j false = true → l.getD j false = true := fun j hj => by
   by_cases hi : j < n ∧ l0.getD j true = false
   ·have h1 : j < l0.size := by rw [G.sz]; have := G.lt; omega
    have hu := hi.2
    simp [h1] at hu hj
    rw [hu] at hj; cases hj
   ·rw [getD_same (hl j hi)]; exact hj
  have hun0 : ∀ j, j < n → l.getD j false = false → l0.getD j true = false := fun j hj h => by
   by_cases hi : j < n ∧ l0.getD j true = false
   ·exact hi.2
   ·have h2 := getD_same (d := true) (hl j hi)
    rw [← h2]
    simp [hsz2 j hj] at h ⊢
    exact h
  have hex : ∃ i, i < n ∧ l.getD i false = false := by
   have h0 : 0 < (List.range n).countP (fun i => !l.getD i false) := by omega
   obtain ⟨i, hi, hp⟩ := List.countP_pos_iff.1 h0
   exact ⟨i, List.mem_range.1 hi, by simpa using hp⟩
  have hready : Region.ready .any ops l ≠ [] := by
   have hmin : ∀ d i, i ≤ d → i < n → l.getD i false = false → Region.ready .any ops l ≠ [] := by
    intro d
    induction d with
    | zero =>
     intro i hid hi hu hne
     obtain ⟨o, ho, _, _, haf⟩ := G.at_ i hi (hun0 i hi hu)
     have : i ∈ Region.ready .any ops l := mem_ready.2 ⟨getD_in (hsz2 i hi) hu, o, ho, fun e he hbd => by
      rcases haf e he hbd with h | h
      ·exact hdone _ h
      ·omega⟩
     rw [hne] at this
     cases this
    | succ d ihd =>
     intro i hid hi hu
     obtain ⟨o, ho, _, _, haf⟩ := G.at_ i hi (hun0 i hi hu)
     by_cases hc : ∃ j, j < i ∧ l.getD j false = false
     ·obtain ⟨j, hj, hju⟩ := hc
      exact ihd j (by omega) (by omega) hju
     ·intro hne
      have : i ∈ Region.ready .any ops l := mem_ready.2 ⟨getD_in (hsz2 i hi) hu, o, ho, fun e he hbd => by
       rcases haf e he hbd with h | h
       ·exact hdone _ h
       ·cases h2 : l.getD e.on false with
        | true => rfl
        | false => exact absurd ⟨e.on, h, h2⟩ hc⟩
      rw [hne] at this
      cases this
   obtain ⟨i, hi, hu⟩ := hex
   exact hmin i i (Nat.le_refl _) hi hu
  obtain ⟨i0, hi0, hu0⟩ := hex
  rw [show f + 1 + fe = (f + fe) + 1 by omega]
  refine ⟨fun h => absurd h hready, fun i hi => ?_⟩
  obtain ⟨hun, o, ho, hdep⟩ := mem_ready.1 hi
  have hilt : i < ops.size := (Array.getElem?_eq_some_iff.1 ho).1
  have hin : i < n := by
   by_cases hin : i < n
   ·exact hin
   ·have hu : l0.getD i true = false := by rw [← getD_same (hl i (fun h => hin h.1))]; exact hun
    exact absurd hi (Region.reach_not_ready hcl (G.wait i hilt hu hin i0 hi0 (hun0 i0 hi0 hu0)) (by rw [← hu0]; have := hsz2 i0 hi0; simp [this]))
  have hui := hun0 i hin (getD_both hun)
  obtain ⟨o', ho', hdst, hgd, haf⟩ := G.at_ i hin hui
  obtain rfl : o = o' := Option.some.inj (ho.symm.trans ho')
  refine wpOp_step ho (fun K hK => ?_)
  rw [if_pos (by unfold Region.wanted; rw [hgd])]
  refine hstep i o hin hui ho vs w hv hb (fun e he hbd h1 h2 => hF e.on (by omega) h2 (hdep e he hbd)) K (fun v w' hvv hw' hM => hK _ _ ⟨fun _ _ => hS _ (hb.trans (hw'.mono hb.size)), ?_⟩)
  rw [hdst, ap_put hin G.dis]
  refine ih (l.setIfInBounds i true) (upd vs i v) w' ?_ (by rw [Array.size_setIfInBounds]; exact hsz) (fun j oj hoj hlj e he hbd => ?_) (fun j hj => ?_) (fun j hj hdj => ?_) (fun j hj huj hlj => ?_) (hb.trans (hw'.mono hb.size)) (fun j hj huj hlj hMj b hbj => ?_) (fun j k hj huj hk huk hlj hlk hjk hMj hMk b hbj hbk => ?_)
  ·have hc := count_set (p := fun k => !l.getD k false) (q := fun k => !(l.setIfInBounds i true).getD k false) (i := i) (by simp [getD_both hun]) (by simp [hsz2 i hin]) (fun j hji => by show (!_) = (!_); rw [getD_set_ne false (Ne.symm hji)]) n hin
   omega
  ·have hmono' : ∀ k, l.getD k false = true → (l.setIfInBounds i true).getD k false = true := fun k hk => by
    by_cases hki : k = i
    ·subst hki; simp [hsz2 k hin]
    ·rw [getD_set_ne false (Ne.symm hki)]; exact hk
   by_cases hji : j = i
   ·subst hji
    obtain rfl : o = oj := Option.some.inj (ho.symm.trans hoj)
    exact hmono' _ (hdep e he hbd)
   ·rw [getD_set_ne false (Ne.symm hji)] at hlj
    exact hmono' _ (hcl j oj hoj hlj e he hbd)
  ·rw [Array.getElem?_setIfInBounds_ne (fun e => hj (by rw [← e]; exact ⟨hin, hui⟩))]
   exact hl j hj
  ·rw [upd, if_neg (fun e => by rw [e, hui] at hdj; cases hdj)]
   exact hv j hj hdj
  ·by_cases hji : j = i
   ·subst hji
    rw [upd, if_pos rfl]
    exact hvv
   ·rw [upd, if_neg hji]
    rw [getD_set_ne false (Ne.symm hji)] at hlj
    exact hmono _ _ _ _ (hF j hj huj hlj) hw'
  ·by_cases hji : j = i
   ·subst hji
    rw [upd, if_pos rfl] at hbj
    exact (hM hMj b hbj).2
   ·rw [upd, if_neg hji] at hbj
    rw [getD_set_ne false (Ne.symm hji)] at hlj
    exact Nat.lt_of_lt_of_le (hD1 j hj huj hlj hMj b hbj) hw'.size
  ·by_cases hji : j = i
   ·subst hji
    rw [upd, if_pos rfl] at hbj
    rw [upd, if_neg (Ne.symm hjk)] at hbk
    rw [getD_set_ne false hjk] at hlk
    have h1 := (hM hMj b hbj).1
    have h2 := hD1 k hk huk hlk hMk b hbk
    omega
   ·rw [upd, if_neg hji] at hbj
    rw [getD_set_ne false (Ne.symm hji)] at hlj
    by_cases hki : k = i
    ·subst hki
     rw [upd, if_pos rfl] at hbk
     have h1 := (hM hMk b hbk).1
     have h2 := hD1 j hj huj hlj hMj b hbj
     omega
    ·rw [upd, if_neg hki] at hbk
     rw [getD_set_ne false (Ne.symm hki)] at hlk
     exact hD2 j k hj huj hk huk hlj hlk hjk hMj hMk b hbj hbk
theorem makers3_ {n f fe fuel : Nat} {a0 : Act} {w0 : World} (l0 l1 : Array Bool) (hB : growNB ops n l0 l1 = true) (es : List Nat) (hes : (List.range n).map (dstN ops) = es) (hf : (List.range n).countP (fun i => !l0.getD i false) = f) (hfe : fuel = f + fe)
  (F : Nat → Value → World → Prop) (M : Nat → Bool) (hS : ∀ w, Below w0.heap.size w0 w → S w) (hmono : ∀ i v w w', F i v w → Below w.heap.size w w' → F i v w')
  (hstep : ∀ i o, i < n → l0.getD i true = false → ops[i]? = some o → ∀ vs w, (∀ j, j < n → l0.getD j true = true → vs j = a0.tmps.getD (dstN ops j) undef) → Below w0.heap.size w0 w → (∀ e ∈ o.after, Region.binds .any e = true → e.on < i → l0.getD e.on true = false → F e.on (vs e.on) w) → ∀ K : Act → World → Prop, (∀ v w', F i v w' → Below w.heap.size w w' → (M i = true → ∀ b, blk v = some b → w.heap.size ≤ b ∧ b < w'.heap.size) → K (({ a0 with tmps := fil2 a0.tmps vs es } : Act).put o.dst v) w') → o.wp P { a0 with tmps := fil2 a0.tmps vs es } w K Q)
  (hend : ∀ vs w, (∀ j, j < n → l0.getD j true = true → vs j = a0.tmps.getD (dstN ops j) undef) → Below w0.heap.size w0 w → (∀ i, i < n → l0.getD i true = false → F i (vs i) w) → (∀ i j, i < n → l0.getD i true = false → j < n → l0.getD j true = false → i ≠ j → M i = true → M j = true → ∀ b, blk (vs i) = some b → blk (vs j) ≠ some b) → wpAnyLast P .any ops Q S ds fe l1 { a0 with tmps := fil2 a0.tmps vs es } w) :
  wpAnyLast P .any ops Q S ds fuel l0 a0 w0 := by
 have G := growNB_spec hB
 have e : ∀ vs, ({ a0 with tmps := fil2 a0.tmps vs es } : Act) = ap ops n a0 vs := fun vs => by
  rw [← hes, fil2_eq]
  rfl
 have hu : ∀ i, i < n → l0.getD i true = false → l0.getD i false = true → False := fun i hi hu h => by
  have h1 : i < l0.size := by rw [G.sz]; have := G.lt; omega
  simp [h1] at hu h
  rw [hu] at h; cases h
 have H := last_of_grow3 (P := P) (Q := Q) (S := S) (ds := ds) (fe := fe) G (a0 := a0) (w0 := w0) (fun i => a0.tmps.getD (dstN ops i) undef) F M hS hmono
  (fun i o hi hu ho vs w hv hb hd K hK => by
   have := hstep i o hi hu ho vs w hv hb hd K (fun v w' h1 h2 h3 => by rw [e]; exact hK v w' h1 h2 h3)
   rwa [e] at this)
  (fun vs w hv hb hF hD => by have := hend vs w hv hb hF hD; rwa [e] at this)
  f l0 (fun i => a0.tmps.getD (dstN ops i) undef) w0 hf G.sz G.closed (fun _ _ => rfl) (fun _ _ _ => rfl) (fun i hi h1 h => (hu i hi h1 h).elim) (Below.refl _ _) (fun i hi h1 h => (hu i hi h1 h).elim) (fun i j hi h1 _ _ h => (hu i hi h1 h).elim)
 rw [ap_self a0 G.dis] at H
 rwa [hfe]
end
end Go.Proofs.YtanabbjakacgbaaGreatDoor.Grow
namespace Go.Proofs.YtanabbjakacgbaaGreatDoor.Sp
open Go.RowKit Go.Proofs.YtanabbjakacgbaaGreatDoorW.PrintWords Go.Proofs.YtanabbjakacgbaaGreatDoorW.PrintLast Go.Proofs.YtanabbjakacgbaaGreatDoorW.PrintMore Go.Proofs.YtanabbjakacgbaaGreatDoor.PM Go.Proofs.YtanabbjakacgbaaGreatDoor.Grow
set_option linter.unusedVariables false
set_option linter.unusedSimpArgs false
set_option maxRecDepth 100000
attribute [local go_sem] Oper.semAt_some
end Go.Proofs.YtanabbjakacgbaaGreatDoor.Sp

