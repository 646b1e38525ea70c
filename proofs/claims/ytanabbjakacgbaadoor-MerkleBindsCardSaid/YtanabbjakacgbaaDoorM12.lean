/- Put together by this session's program out of: Pb Pc Sl Gs Sn Hh Hg Pg Hr Hz. -/
import Derived.Laws.BitsAllLaws
import Derived.Laws.BytesArg
import Derived.Test.YtanabbjakacgbaaDoorM10
import Derived.Test.YtanabbjakacgbaaDoorM11
import Derived.Test.YtanabbjakacgbaaDoorM4
import Derived.Test.YtanabbjakacgbaaDoorM2
namespace Go.Proofs.YtanabbjakacgbaaDoor.Sp
open Go.RowKit Go.Proofs.YtanabbjakacgbaaDoorW.PrintWords Go.Proofs.YtanabbjakacgbaaDoorW.PrintLast Go.Proofs.YtanabbjakacgbaaDoorW.PrintMore Go.Proofs.YtanabbjakacgbaaDoor.PM
set_option linter.unusedVariables false
set_option linter.unusedSimpArgs false
theorem bl_irr : ∀ a : List UInt8, Op.bytesLess a a = false
  | [] => rfl
  | x :: a => by rw [Op.bytesLess]; simp [UInt8.lt_irrefl, bl_irr a]
theorem bl_trans : ∀ a b c : List UInt8, Op.bytesLess a b = true → Op.bytesLess b c = true → Op.bytesLess a c = true
  | [], [], c, h1, h2 => by simp [Op.bytesLess] at h1
  | [], _ :: _, [], h1, h2 => by simp [Op.bytesLess] at h2
  | [], _ :: _, _ :: _, h1, h2 => rfl
  | _ :: _, [], _, h1, h2 => by simp [Op.bytesLess] at h1
  | _ :: _, _ :: _, [], h1, h2 => by simp [Op.bytesLess] at h2
  | x :: a, y :: b, z :: c, h1, h2 => by
    have ih := bl_trans a b c
    simp only [Op.bytesLess, Bool.or_eq_true, Bool.and_eq_true, decide_eq_true_eq, beq_iff_eq] at h1 h2 ⊢
    rcases h1 with h1 | ⟨rfl, h1⟩
    · rcases h2 with h2 | ⟨rfl, h2⟩
      · exact .inl (UInt8.lt_trans h1 h2)
      · exact .inl h1
    · rcases h2 with h2 | ⟨rfl, h2⟩
      · exact .inl h2
      · exact .inr ⟨rfl, ih h1 h2⟩
theorem blt_irr (a : ByteArray) : blt a a = false := bl_irr _
theorem blt_trans {a b c : ByteArray} (h1 : blt a b = true) (h2 : blt b c = true) : blt a c = true := bl_trans _ _ _ h1 h2
theorem blt_ne {a b : ByteArray} (h : blt a b = true) : ¬ a = b := fun e => by rw [e, blt_irr] at h; cases h
theorem blt_asym {a b : ByteArray} (h : blt a b = true) : blt b a = false := by
  by_cases hb : blt b a = true
  · have := blt_trans h hb; rw [blt_irr] at this; cases this
  · simpa using hb
theorem blt_tot {a b : ByteArray} (h : blt a b = false) (hne : ¬ a = b) : blt b a = true := by
  have := bl_tri a.toList b.toList
  rw [show Op.bytesLess a.toList b.toList = false from h, Bool.false_or] at this
  by_cases hb : blt b a = true
  · exact hb
  · rw [show Op.bytesLess b.toList a.toList = false by simpa [blt] using hb] at this
    exact absurd (toList_inj.1 (by simpa using this)) hne
def Srt (l : List Lf) : Prop := l.Pairwise fun a b => blt a.k b.k = true
theorem Srt.one {l : List Lf} (h : Srt l) : ∀ {x y : Lf}, x ∈ l → y ∈ l → x.k = y.k → x = y := by
  induction l with
  | nil => intro x y hx; cases hx
  | cons z l ih =>
    intro x y hx hy e
    have h2 := List.pairwise_cons.1 h
    rcases List.mem_cons.1 hx with hx1 | hx1
    · rcases List.mem_cons.1 hy with hy1 | hy1
      · rw [hx1, hy1]
      · have := h2.1 _ hy1; rw [← e, hx1, blt_irr] at this; cases this
    · rcases List.mem_cons.1 hy with hy1 | hy1
      · have := h2.1 _ hx1; rw [e, hy1, blt_irr] at this; cases this
      · exact ih h2.2 hx1 hy1 e
theorem step_after (x y : Lf) (acc : List Lf) : putStep x (acc, true) y = if y.k = x.k then (acc, true) else (acc ++ [y], true) := by simp [putStep]
theorem step_lt {x y : Lf} (h : blt y.k x.k = true) (acc : List Lf) : putStep x (acc, false) y = (acc ++ [y], false) := by simp [putStep, h, blt_ne h]
theorem step_ge {x y : Lf} (h : blt y.k x.k = false) (acc : List Lf) : putStep x (acc, false) y = if y.k = x.k then (acc ++ [x], true) else (acc ++ [x] ++ [y], true) := by simp [putStep, h]
theorem put_after (x : Lf) : ∀ (l : List Lf) (acc : List Lf), l.foldl (putStep x) (acc, true) = (acc ++ l.filter fun y => decide (¬ y.k = x.k), true)
  | [], acc => by simp
  | y :: l, acc => by
    rw [List.foldl_cons, step_after]
    by_cases h : y.k = x.k
    · rw [if_pos h, put_after x l, List.filter_cons_of_neg (by simp [h])]
    · rw [if_neg h, put_after x l, List.filter_cons_of_pos (by simp [h]), List.append_assoc]
      rfl
theorem put_fold (x : Lf) : ∀ (l : List Lf) (acc : List Lf), Srt l → l.foldl (putStep x) (acc, false) = if (∀ y ∈ l, blt y.k x.k = true) then (acc ++ l, false) else (acc ++ (l.filter fun y => blt y.k x.k) ++ x :: l.filter (fun y => blt x.k y.k), true)
  | [], acc, h => by simp
  | y :: l, acc, h => by
    have h2 := List.pairwise_cons.1 h
    rw [List.foldl_cons]
    by_cases hy : blt y.k x.k = true
    · rw [step_lt hy, put_fold x l _ h2.2, List.filter_cons_of_pos (by simpa using hy), List.filter_cons_of_neg (by rw [blt_asym hy]; simp)]
      by_cases ha : ∀ z ∈ l, blt z.k x.k = true
      · rw [if_pos ha, if_pos (fun z hz => (List.mem_cons.1 hz).elim (fun e => e ▸ hy) (ha z)), List.append_assoc]; rfl
      · rw [if_neg ha, if_neg (fun hb => ha fun z hz => hb z (List.mem_cons_of_mem _ hz))]
        simp only [List.append_assoc, List.singleton_append, List.cons_append, List.nil_append]
    · have hyf : blt y.k x.k = false := by simpa using hy
      have hgt : ∀ z ∈ l, blt x.k z.k = true := fun z hz => by
        by_cases e : y.k = x.k
        · rw [← e]; exact h2.1 z hz
        · exact blt_trans (blt_tot hyf e) (h2.1 z hz)
      have f1 : (l.filter fun z => blt z.k x.k) = [] := List.filter_eq_nil_iff.2 fun z hz => by rw [blt_asym (hgt z hz)]; simp
      have f2 : (l.filter fun z => blt x.k z.k) = l := List.filter_eq_self.2 fun z hz => hgt z hz
      have f3 : (l.filter fun z => decide (¬ z.k = x.k)) = l := List.filter_eq_self.2 fun z hz => decide_eq_true (fun e => blt_ne (hgt z hz) e.symm)
      rw [if_neg (fun hb => hy (hb y List.mem_cons_self)), List.filter_cons_of_neg (by rw [hyf]; simp), f1, List.append_nil]
      by_cases e : y.k = x.k
      · rw [step_ge hyf, if_pos e, put_after, List.filter_cons_of_neg (by rw [e, blt_irr]; simp), f2, f3, List.append_assoc]; rfl
      · rw [step_ge hyf, if_neg e, put_after, List.filter_cons_of_pos (by simpa using blt_tot hyf e), f2, f3]
        simp only [List.append_assoc, List.singleton_append, List.cons_append, List.nil_append]
theorem putOf_eq (x : Lf) {l : List Lf} (h : Srt l) : putOf l x = (l.filter fun y => blt y.k x.k) ++ x :: l.filter (fun y => blt x.k y.k) := by
  rw [putOf, putGo, put_fold x l [] h]
  by_cases ha : ∀ z ∈ l, blt z.k x.k = true
  · rw [if_pos ha, if_neg (by simp)]
    have f1 : (l.filter fun z => blt z.k x.k) = l := List.filter_eq_self.2 fun z hz => ha z hz
    have f2 : (l.filter fun z => blt x.k z.k) = [] := List.filter_eq_nil_iff.2 fun z hz => by rw [blt_asym (ha z hz)]; simp
    rw [f1, f2, List.nil_append]
  · rw [if_neg ha, if_pos rfl, List.nil_append]
theorem mem_putOf (x : Lf) {l : List Lf} (h : Srt l) (y : Lf) : y ∈ putOf l x ↔ y = x ∨ (y ∈ l ∧ ¬ y.k = x.k) := by
  rw [putOf_eq x h, List.mem_append, List.mem_cons, List.mem_filter, List.mem_filter]
  constructor
  · rintro (⟨h1, h2⟩ | rfl | ⟨h1, h2⟩)
    · exact .inr ⟨h1, blt_ne h2⟩
    · exact .inl rfl
    · exact .inr ⟨h1, fun e => blt_ne h2 e.symm⟩
  · rintro (rfl | ⟨h1, h2⟩)
    · exact .inr (.inl rfl)
    · by_cases hb : blt y.k x.k = true
      · exact .inl ⟨h1, hb⟩
      · exact .inr (.inr ⟨h1, blt_tot (by simpa using hb) h2⟩)
theorem Srt.put (x : Lf) {l : List Lf} (h : Srt l) : Srt (putOf l x) := by
  rw [putOf_eq x h, Srt, List.pairwise_append]
  refine ⟨h.filter _, List.pairwise_cons.2 ⟨fun z hz => (List.mem_filter.1 hz).2, h.filter _⟩, fun a ha b hb => ?_⟩
  have h1 := (List.mem_filter.1 ha).2
  rcases List.mem_cons.1 hb with rfl | hb
  · exact h1
  · exact blt_trans h1 (List.mem_filter.1 hb).2
theorem made_mem (a : List (Int × Int)) : ∀ y ∈ madeOf a, ∃ p ∈ a, y = lfOf p := by
  have : ∀ (a : List (Int × Int)) (l : List Lf), Srt l → ∀ y ∈ a.foldl (fun l p => putOf l (lfOf p)) l, y ∈ l ∨ ∃ p ∈ a, y = lfOf p := by
    intro a
    induction a with
    | nil => exact fun l h y hy => .inl hy
    | cons p a ih =>
      intro l h y hy
      rcases ih _ (h.put _) y hy with h1 | ⟨q, h1, h2⟩
      · rcases (mem_putOf _ h y).1 h1 with rfl | h1
        · exact .inr ⟨p, List.mem_cons_self, rfl⟩
        · exact .inl h1.1
      · exact .inr ⟨q, List.mem_cons_of_mem _ h1, h2⟩
  intro y hy
  rcases this a [] List.Pairwise.nil y hy with h | h
  · cases h
  · exact h
def rootOf (l : List Lf) : Sm := hashOf (itemsOf l) 0
theorem path_len (l : List Lf) (k : ByteArray) : (proveOf l k).p.length ≤ 256 := by
  have h : (proveOf l k).p = (wayOf (itemsOf l) (hk k)).1 := by rw [proveOf]; split <;> rfl
  rw [h]
  exact way_len _ _ _ _
theorem way_end_mem {l : List Lf} {k : ByteArray} {z : It} (h : z ∈ (wayOf (itemsOf l) (hk k)).2) : z.x ∈ l ∧ z = itemOf z.x := by
  have h1 := way_mem _ _ _ _ _ h
  rw [itemsOf, List.mem_map] at h1
  obtain ⟨x, h1, rfl⟩ := h1
  exact ⟨h1, rfl⟩
theorem prove_ck (l : List Lf) (k : ByteArray) : ∃ v b, ckOf (rootOf l) k (proveOf l k).p (proveOf l k).e (proveOf l k).l = ⟨v, b, true⟩ ∧ (b = decide ((proveOf l k).e = 1)) ∧ (b = true → (proveOf l k).l ∈ l ∧ (proveOf l k).l.k = k ∧ v = (proveOf l k).l.v) ∧ (b = false → v = zS) := by
  have hup : hashOf (itemsOf l) 0 = upL (hk k) (wayOf (itemsOf l) (hk k)).1 0 (endH (wayOf (itemsOf l) (hk k)).2) := way_up (hk k) 256 0 (itemsOf l) rfl (by omega)
  have hlen : (wayOf (itemsOf l) (hk k)).1.length ≤ 256 := way_len (hk k) 256 0 (itemsOf l)
  by_cases h0 : (wayOf (itemsOf l) (hk k)).2.length = 0
  · have hp : proveOf l k = ⟨(wayOf (itemsOf l) (hk k)).1, 0, zL⟩ := by rw [proveOf, if_pos h0]
    refine ⟨zS, false, ?_, by rw [hp]; rfl, fun h => (by cases h), fun _ => rfl⟩
    rw [hp]
    have hr : rightB k (wayOf (itemsOf l) (hk k)).1.length 0 zL = true := by
      rw [rightB, Bool.and_eq_true]; exact ⟨decide_eq_true hlen, by simp⟩
    have ht : topOf k (wayOf (itemsOf l) (hk k)).1 0 zL = rootOf l := by
      rw [topOf, if_pos rfl, rootOf, hup, endH, if_pos h0]
    simp only [ckOf, checkB, hr, ht]
    simp
  · have hz : (wayOf (itemsOf l) (hk k)).2.getD 0 zI ∈ (wayOf (itemsOf l) (hk k)).2 := getD_mem' (by omega)
    obtain ⟨hz1, hz2⟩ := way_end_mem hz
    obtain ⟨z, hzz⟩ : ∃ z, (wayOf (itemsOf l) (hk k)).2.getD 0 zI = z := ⟨_, rfl⟩
    have hp : proveOf l k = ⟨(wayOf (itemsOf l) (hk k)).1, if z.x.k = k then 1 else 2, z.x⟩ := by rw [proveOf, if_neg h0, hzz]
    rw [hzz] at hz1 hz2 hz
    have hu : upL (hk k) (wayOf (itemsOf l) (hk k)).1 0 (leafH z.x) = rootOf l := by
      rw [rootOf, hup, endH, if_neg h0, ← hzz]
    by_cases he : z.x.k = k
    · rw [if_pos he] at hp
      refine ⟨z.x.v, true, ?_, by rw [hp]; rfl, fun _ => (by rw [hp]; exact ⟨hz1, he, rfl⟩), fun h => (by cases h)⟩
      rw [hp]
      have hr : rightB k (wayOf (itemsOf l) (hk k)).1.length 1 z.x = true := by
        rw [rightB, Bool.and_eq_true]; exact ⟨decide_eq_true hlen, by simp [he]⟩
      have ht : topOf k (wayOf (itemsOf l) (hk k)).1 1 z.x = rootOf l := by rw [topOf, if_neg (by decide), hu]
      simp only [ckOf, checkB, hr, ht]
      simp
    · rw [if_neg he] at hp
      refine ⟨zS, false, ?_, by rw [hp]; rfl, fun h => (by cases h), fun _ => rfl⟩
      rw [hp]
      have ha : agree (hk k) (hk z.x.k) (wayOf (itemsOf l) (hk k)).1.length = true := agree_t fun i hi => by
        have := way_bits (hk k) 256 0 (itemsOf l) z hz i (by omega) (by have h : i < (wayF 256 (itemsOf l) (hk k) 0).1.length := hi; omega)
        rw [hz2] at this
        exact this.symm
      have hr : rightB k (wayOf (itemsOf l) (hk k)).1.length 2 z.x = true := by
        rw [rightB, Bool.and_eq_true]; exact ⟨decide_eq_true hlen, by simp [he, ha]⟩
      have ht : topOf k (wayOf (itemsOf l) (hk k)).1 2 z.x = rootOf l := by rw [topOf, if_neg (by decide), hu]
      simp only [ckOf, checkB, hr, ht]
      simp
end Go.Proofs.YtanabbjakacgbaaDoor.Sp
namespace Go.Proofs.YtanabbjakacgbaaDoor.Sp
open Go.RowKit Go.Proofs.YtanabbjakacgbaaDoorW.PrintWords Go.Proofs.YtanabbjakacgbaaDoorW.PrintLast Go.Proofs.YtanabbjakacgbaaDoorW.PrintMore Go.Proofs.YtanabbjakacgbaaDoor.PM
set_option linter.unusedVariables false
set_option linter.unusedSimpArgs false
theorem right_long {n : Nat} (h : 256 < n) (k : ByteArray) (e : Int) (l : Lf) : rightB k n e l = false := by
  rw [rightB, show decide (n ≤ 256) = false by simpa using h, Bool.false_and]
end Go.Proofs.YtanabbjakacgbaaDoor.Sp
namespace Go.Proofs.YtanabbjakacgbaaDoor.Sp
open Go.RowKit Go.Proofs.YtanabbjakacgbaaDoorW.PrintWords Go.Proofs.YtanabbjakacgbaaDoorW.PrintLast Go.Proofs.YtanabbjakacgbaaDoorW.PrintMore Go.Proofs.YtanabbjakacgbaaDoor.PM
set_option linter.unusedVariables false
set_option linter.unusedSimpArgs false
set_option maxRecDepth 100000
attribute [local go_sem] Oper.semAt_some
theorem Oct.take {a : List (Int × Int)} (h : Oct a) (n : Nat) : Oct (a.take n) := fun p hp => h p (List.mem_of_mem_take hp)
theorem made_sm (a : List (Int × Int)) (N : Nat) (hN : N ≤ 12) : SmL (madeOf (a.take N)) := by
  refine ⟨?_, fun x hx => ?_⟩
  · by_cases h : N ≤ a.length
    · have := madeOf_small h hN; omega
    · rw [List.take_of_length_le (by omega), show a = a.take a.length by rw [List.take_length]]
      have := madeOf_small (n := a.length) (a := a) (Nat.le_refl _) (by omega); omega
  · obtain ⟨p, _, rfl⟩ := made_mem _ x hx
    show (keyB p.1).size ≤ 100000
    have : (keyB p.1).size = 4 := rfl
    omega
theorem RootR_calls (l : List Lf) (A : Option Addr) (c : Nat) (w : World) (hW : Words w) (hr : kL.R 33 w 0 (fun _ => True) (.slice A l.length c) l) (hl : SmL l) (r : Sm) (hq : rootOf l = r) :
    Calls Tryd.prog 12 #[.slice A l.length c] w fun e w' => e = .returned (.agg (cS r)) ∧ Below w.heap.size w w' := by
  have h := Rootm_calls l A c w hW (R_C hr).2.2 (R_C hr).2.1 hl
  rw [show hashOf (itemsOf l) 0 = r from hq] at h
  exact h
theorem ProveR_calls (l : List Lf) (k : ByteArray) (A : Option Addr) (c : Nat) (w : World) (hW : Words w) (hr : kL.R 33 w 0 (fun _ => True) (.slice A l.length c) l) (hl : SmL l) (hk1 : k.size ≤ 100000) (p : Pf) (hp : proveOf l k = p) :
    Calls Tryd.prog 14 #[.slice A l.length c, .string k] w fun e w' => ∃ A' c' C, C = cP (.slice A' p.p.length c') p.e p.l ∧ e = .returned (.agg C) ∧ kS.C w' A' p.p.length p.p ∧ Below w.heap.size w w' := by
  have h := Provem_calls l k A c w hW (R_C hr).2.2 (R_C hr).2.1 hl hk1
  rw [hp] at h
  refine h.mono ?_
  rintro e w' ⟨A', c', rfl, h1, _, h3⟩
  exact ⟨A', c', _, rfl, rfl, h1, h3⟩
theorem CheckP_calls {C : Array Value} {A : Option Addr} {c : Nat} {p : Pf} (hC : C = cP (.slice A p.p.length c) p.e p.l) (root : Sm) (k : ByteArray) (hk1 : k.size ≤ 100000) (hl1 : p.l.k.size ≤ 100000) (hlen : p.p.length ≤ 1000000) (w : World) (hW : Words w) (hr : kS.C w A p.p.length p.p) (q : Ck) (hq : ckOf root k p.p p.e p.l = q) :
    Calls Tryd.prog 13 #[.agg (cS root), .string k, .agg C] w fun r w' => r = .returned (.agg (cK q)) ∧ Below w.heap.size w w' := by
  subst hC
  have h := check_calls root k hk1 A p.p c hlen p.e p.l hl1 w hW hr
  rw [hq] at h
  exact h
theorem prove_sm {l : List Lf} (hl : SmL l) (k : ByteArray) : (proveOf l k).l.k.size ≤ 100000 := by
  rw [proveOf]
  by_cases h0 : (wayOf (itemsOf l) (hk k)).2.length = 0
  · rw [if_pos h0]; show zL.k.size ≤ 100000; decide
  · rw [if_neg h0]
    exact hl.2 _ (way_end_mem (getD_mem' (z := zI) (by omega))).1
theorem cell_K1 {w : World} {g t : Nat} {x : Ck} {fr : Nat × Nat} (hg : w.heap[g]? = some (.cells (cK x) t fr)) : w.cell? ⟨g, 32, none⟩ = some (.bool x.i) :=
  (cell_of_row w g 32 _ t fr hg).trans (by rw [cK, Array.getElem?_append_left (by rw [Array.size_append, cS_size]; simp), Array.getElem?_append_right (by rw [cS_size]; omega), cS_size]; rfl)
theorem cell_K2 {w : World} {g t : Nat} {x : Ck} {fr : Nat × Nat} (hg : w.heap[g]? = some (.cells (cK x) t fr)) : w.cell? ⟨g, 33, none⟩ = some (.bool x.o) :=
  (cell_of_row w g 33 _ t fr hg).trans (by rw [cK, Array.getElem?_append_right (by rw [Array.size_append, cS_size]; simp), Array.size_append, cS_size]; rfl)
structure PvSt (w0 : World) (A : Option Addr) (c : Nat) (l : List Lf) (g : Nat) (r : Sm) (w : World) : Prop where
  below : Below w0.heap.size w0 w
  words : Words w
  row : kL.R 33 w 0 (fun _ => True) (.slice A l.length c) l
  br : w.heap[g]? = some (.cells (cS r) 27 (0, 0))
theorem PvSt.next {w0 w w' : World} {A : Option Addr} {c g : Nat} {l : List Lf} {r : Sm} (h : PvSt w0 A c l g r w) (hb : Below w.heap.size w w') : PvSt w0 A c l g r w' :=
  ⟨h.below.trans (hb.mono h.below.size), h.words.below hb, Kd.R_below h.row hb, at_next h.br hb⟩
end Go.Proofs.YtanabbjakacgbaaDoor.Sp
namespace Go.Proofs.YtanabbjakacgbaaDoor.Grow
open Go Go.RowKit Go.Proofs.YtanabbjakacgbaaDoorW.PrintWords Go.Proofs.YtanabbjakacgbaaDoorW.PrintLast
set_option linter.unusedVariables false
set_option linter.unusedSimpArgs false
section
variable {P : Program} {ops : Array Oper} {Q : Exit → Act → World → Prop} {S : World → Prop} {ds : List Nat}
theorem getD_same {a b : Array Bool} {j : Nat} {d : Bool} (h : a[j]? = b[j]?) : a.getD j d = b.getD j d := by
  rw [Array.getD_eq_getD_getElem?, Array.getD_eq_getD_getElem?, h]
end
end Go.Proofs.YtanabbjakacgbaaDoor.Grow
namespace Go.Proofs.YtanabbjakacgbaaDoor.Sp
open Go.RowKit Go.Proofs.YtanabbjakacgbaaDoorW.PrintWords Go.Proofs.YtanabbjakacgbaaDoorW.PrintLast Go.Proofs.YtanabbjakacgbaaDoorW.PrintMore Go.Proofs.YtanabbjakacgbaaDoor.PM Go.Proofs.YtanabbjakacgbaaDoor.Grow
set_option linter.unusedVariables false
set_option linter.unusedSimpArgs false
set_option maxRecDepth 100000
attribute [local go_sem] Oper.semAt_some
section
variable {P : Program} {ops : Array Oper} {rest : List Oper} {o : Oper} {a : Act} {w : World} {Q : Exit → Act → World → Prop}
theorem wpList_store_run (hgd : o.guard = none) {ty : TypeId} {x y : Operand} (ho : o.op = .store ty x y) {ad : Addr} {v : Value} (hx : a.eval x = .pointer (some ad)) (hy : a.eval y = v) (W : World)
    (hrun : (storeVar ty ad v).run P w = .ok () W) (h : wpList P ops Q rest (a.put o.dst undef) W) : wpList P ops Q (o :: rest) a w := by
  refine wpList_plain hgd fun K hK => ?_
  unfold Oper.wp
  simp [execOp, ho, hx, hy, Instr.storeAt, Instr.sureAddr, hrun, Result.andThen, Sem.run_bind, Sem.run_map, Sem.run_pure]
  exact hK _ _ h
end
def Paused (p : Prop) : Prop := p
theorem pause_ {p : Prop} (h : Paused p) : p := h
theorem unpause_ {p : Prop} (h : p) : Paused p := h
def Bx (bs : List (Nat × Array Value)) (w : World) : Prop := ∀ x ∈ bs, w.heap[x.1]? = some (.cells x.2 36 (0, 0))
structure RfSt (wB : World) (g8 : Nat) (r : Sm) (bs : List (Nat × Array Value)) (w : World) : Prop where
  below : Below wB.heap.size wB w
  br : w.heap[g8]? = some (.cells (cS r) 27 (0, 0))
  bx : Bx bs w
section
variable {wB w w' : World} {g8 b : Nat} {r : Sm} {bs : List (Nat × Array Value)} {C C' : Array Value} {v : Value} {e : Int} {l : Lf}
theorem RfSt.next (h : RfSt wB g8 r bs w) (hb : Below w.heap.size w w') : RfSt wB g8 r bs w' := ⟨below_tr h.below hb h.below.size, at_next h.br hb, fun x hx => at_next (h.bx x hx) hb⟩
structure Alone (wB : World) (g8 b : Nat) (bs : List (Nat × Array Value)) : Prop where
  new : wB.heap.size ≤ b
  root : g8 ≠ b
  apart : ∀ x ∈ bs, x.1 ≠ b
theorem RfSt.set (h : RfSt wB g8 r ((b, C) :: bs) w) (ha : Alone wB g8 b bs) (hw : w'.heap[b]? = some (.cells C' 36 (0, 0))) (hk : ∀ k, k ≠ b → w'.heap[k]? = w.heap[k]?) (hbel : Below wB.heap.size wB w') : RfSt wB g8 r ((b, C') :: bs) w' :=
  ⟨hbel, (hk _ ha.root).trans h.br, fun x hx => by
    rcases List.mem_cons.1 hx with rfl | hx
    · exact hw
    · exact (hk _ (ha.apart x hx)).trans (h.bx x (List.mem_cons_of_mem _ hx))⟩
theorem RfSt.one (h : RfSt wB g8 r ((b, C) :: bs) w) : w.heap[b]? = some (.cells C 36 (0, 0)) := h.bx (b, C) List.mem_cons_self
theorem RfSt.row (h : RfSt wB g8 r ((b, C) :: bs) w) (ha : Alone wB g8 b bs) : RfSt wB g8 r ((b, C') :: bs) (w.setRow b C') :=
  h.set ha (setRow_heap _ _ _ _ _ _ h.one) (fun k hk => setRow_other _ _ _ _ hk) (below_setRow h.below ha.new)
theorem RfSt.add (h : RfSt wB g8 r bs w) (Z C : Array Value) : RfSt wB g8 r ((w.heap.size, C) :: bs) ((w.alloc (.cells Z 36)).setRow w.heap.size C) ∧ Alone wB g8 w.heap.size bs ∧ Below w.heap.size w ((w.alloc (.cells Z 36)).setRow w.heap.size C) := by
  have hb : Below w.heap.size w ((w.alloc (.cells Z 36)).setRow w.heap.size C) := below_setRow (below_alloc (Below.refl _ _) _) (Nat.le_refl _)
  refine ⟨⟨(h.next hb).below, (h.next hb).br, fun x hx => ?_⟩, ⟨h.below.size, ?_, fun x hx => ?_⟩, hb⟩
  · rcases List.mem_cons.1 hx with rfl | hx
    · exact setRow_heap _ _ _ _ _ _ (h_new rfl)
    · exact (h.next hb).bx x hx
  · have := (Array.getElem?_eq_some_iff.1 h.br).1; omega
  · have := (Array.getElem?_eq_some_iff.1 (h.bx x hx)).1; omega
theorem set_PK {t : Nat} (s : ByteArray) (hg : w.heap[b]? = some (.cells (cP v e l) t (0, 0))) : (w.setCell ⟨b, 2, none⟩ (.string s)).heap[b]? = some (.cells (cP v e ⟨s, l.v⟩) t (0, 0)) := by
  rw [heap_setCell_same w b 2 _ t _ hg, cP, cP, Array.setIfInBounds_append_right (by simp), cL, cL, Array.setIfInBounds_append_left (by simp)]
  rfl
theorem run_c {ty : TypeId} {x : Value} (hi : (Tryd.prog.info? ty).map (·.size) = some 1) (hv : x.cells = #[x]) (h1 : x.oneCell' = true) (j : Nat) (hj : j < 35) (hg : w.heap[b]? = some (.cells (cP v e l) 36 (0, 0))) : (storeVar ty ⟨b, j, none⟩ x).run Tryd.prog w = .ok () (w.setCell ⟨b, j, none⟩ x) :=
  run_storeVar_cell rfl hv h1 hi (old := (cP v e l)[j]'(by rw [cP_size]; exact hj)) ((cell_of_row w b j _ _ _ hg).trans (Array.getElem?_eq_getElem (by rw [cP_size]; exact hj))) (frozen_of_row w b j _ _ hg)
end
theorem ld_Pf {w : World} {A : Option Addr} {n c : Nat} {e : Int} {l : Lf} {C : Array Value} {b : Nat} (hC : C = cP (.slice A n c) e l) (hg : w.heap[b]? = some (.cells C 36 (0, 0))) : (loadVar 36 ⟨b, 0, none⟩).run Tryd.prog w = .ok (.agg C) w := by
  rw [hC] at hg ⊢; exact ld_P hg 0
theorem two_kinds {w wx wy : World} {n t1 t2 : Nat} (hn : n = w.heap.size) {Z1 Z2 C D : Array Value} (hwx : (w.alloc (.cells Z1 t1)).alloc (.cells Z2 t2) = wx) (hwy : (wx.setRow n C).setRow (n + 1) D = wy) :
    wx.heap[n]? = some (.cells Z1 t1 (0, 0)) ∧ (wx.setRow n C).heap[n + 1]? = some (.cells Z2 t2 (0, 0)) ∧ wy.heap[n]? = some (.cells C t1 (0, 0)) ∧ wy.heap[n + 1]? = some (.cells D t2 (0, 0)) ∧ Below w.heap.size w wy := by
  have h0 : wx.heap[n]? = some (.cells Z1 t1 (0, 0)) := by rw [← hwx, h_old (by simp only [size_alloc]; omega)]; exact h_new hn
  have h1 : wx.heap[n + 1]? = some (.cells Z2 t2 (0, 0)) := by rw [← hwx]; exact h_new (by rw [size_alloc, hn])
  have h2 := (setRow_other wx n (n + 1) C (by omega)).trans h1
  rw [← hwy]
  refine ⟨h0, h2, (setRow_other _ _ _ _ (by omega)).trans (setRow_heap _ _ _ _ _ _ h0), setRow_heap _ _ _ _ _ _ h2, ?_⟩
  rw [← hwx]
  exact below_setRow (below_setRow (below_alloc (below_alloc (Below.refl _ _) _) _) (by omega)) (by omega)
end Go.Proofs.YtanabbjakacgbaaDoor.Sp
namespace Go.Proofs.YtanabbjakacgbaaDoor.Sp
open Go.RowKit Go.Proofs.YtanabbjakacgbaaDoorW.PrintWords Go.Proofs.YtanabbjakacgbaaDoorW.PrintLast Go.Proofs.YtanabbjakacgbaaDoorW.PrintMore Go.Proofs.YtanabbjakacgbaaDoor.PM Go.Proofs.YtanabbjakacgbaaDoor.Grow
set_option linter.unusedVariables false
set_option linter.unusedSimpArgs false
set_option maxRecDepth 100000
theorem xor_ok {x y : Int} (hx : 0 ≤ x ∧ x < 256) (hy : 0 ≤ y ∧ y < 256) : 0 ≤ bits .xor .u8 x y ∧ bits .xor .u8 x y < 256 := by
  rw [u8_xor x y hx.1 hx.2 hy.1 hy.2]
  have := Nat.xor_lt_two_pow (x := x.toNat) (y := y.toNat) (n := 8) (by omega) (by omega)
  omega
def sset (x : Sm) (i : Nat) (b : Int) (h : 0 ≤ b ∧ b < 256) : Sm := ⟨x.b.set i b, by rw [List.length_set]; exact x.h, fun y hy => by
  rcases List.mem_or_eq_of_mem_set hy with hy | hy
  · exact x.r y hy
  · rw [hy]; exact h⟩
theorem cS_sset (x : Sm) (i : Nat) (b : Int) (h : 0 ≤ b ∧ b < 256) : cS (sset x i b h) = (cS x).setIfInBounds i (.int .u8 b) := by
  rw [cS, cS, encI, encI, List.setIfInBounds_toArray, sset]
  simp only [List.map_set]
theorem set_PB {w : World} {g t : Nat} {v : Value} {e : Int} {l : Lf} (hg : w.heap[g]? = some (.cells (cP v e l) t (0, 0))) (i : Nat) (b : Int) (h : 0 ≤ b ∧ b < 256) :
    ∃ l' : Lf, l'.k = l.k ∧ (w.setCell ⟨g, 3 + i, none⟩ (.int .u8 b)).heap[g]? = some (.cells (cP v e l') t (0, 0)) := by
  refine ⟨⟨l.k, sset l.v i b h⟩, rfl, ?_⟩
  rw [heap_setCell_same w g (3 + i) _ t _ hg, cP, cP, Array.setIfInBounds_append_right (by simp; omega), cL, cL, Array.setIfInBounds_append_right (by simp; omega), cS_sset]
  have e1 : 3 + i - (#[v, Value.int .i64 e] : Array Value).size - (#[Value.string l.k] : Array Value).size = i := by show 3 + i - 2 - 1 = i; omega
  rw [e1]
theorem add_at (g o j : Nat) : (⟨g, o, none⟩ : Addr).add j = ⟨g, o + j, none⟩ := by simp [Addr.add]
theorem C_keepS {w W : World} {ad : Addr} {n : Nat} {P : List Sm} (h : kS.C w (some ad) n P) (hb : W.heap[ad.block]? = w.heap[ad.block]?) : kS.C W (some ad) n P := by
  refine ⟨h.1, h.2.1, fun hn => ?_⟩
  obtain ⟨ad', e, hc⟩ := h.2.2 hn
  obtain rfl := Option.some.inj e
  refine ⟨ad, rfl, fun j p hj => ?_⟩
  obtain ⟨c, h1, h2, h3⟩ := hc j p hj
  exact ⟨c, h1, h2, fun i u hi => (World.cell?_of_block (by rw [show (ad.add (j * kS.sz + i)).block = ad.block from add_blk _ _]; exact hb)).trans (h3 i u hi)⟩
theorem set_S {w W : World} {gP : Nat} {cur : Array Value} {P : List Sm} (hC : kS.C w (some ⟨gP, 0, none⟩) P.length P) (hcur : w.heap[gP]? = some (.cells cur 27 (0, 0))) (j : Nat) (hj : j < P.length) (i : Nat) (hi : i < 32) (b : Int) (h : 0 ≤ b ∧ b < 256)
    (hW : W.heap[gP]? = (w.setCell ⟨gP, j * 32 + i, none⟩ (.int .u8 b)).heap[gP]?) : ∃ P' : List Sm, P'.length = P.length ∧ kS.C W (some ⟨gP, 0, none⟩) P'.length P' := by
  rw [heap_setCell_same w gP (j * 32 + i) _ 27 _ hcur] at hW
  refine ⟨P.set j (sset P[j] i b h), by rw [List.length_set], rfl, by rw [List.length_set]; exact hC.2.1, fun hn => ⟨_, rfl, fun k x hx => ?_⟩⟩
  obtain ⟨ad', e, hc⟩ := hC.2.2 (by omega)
  obtain rfl := Option.some.inj e
  refine ⟨(cS x).toList, by rw [Array.length_toList, cS_size]; rfl, rfl, fun m u hu => ?_⟩
  have hm : m < 32 := by
    have := (List.getElem?_eq_some_iff.1 hu).1
    rw [Array.length_toList, cS_size] at this
    exact this
  have hk : k < P.length := by
    have := (List.getElem?_eq_some_iff.1 hx).1
    rwa [List.length_set] at this
  have hsz : kS.sz = 32 := rfl
  have hold : ∀ (k : Nat) (hk : k < P.length) (m : Nat) (u : Value), (cS P[k]).toList[m]? = some u → cur[k * 32 + m]? = some u := fun k hk m u hu => by
    obtain ⟨c, h1, h2, h3⟩ := hc k P[k] (List.getElem?_eq_getElem hk)
    have h4 := h3 m u (by rw [show c = (cS P[k]).toList from h2]; exact hu)
    rw [add_at, hsz, Nat.zero_add, cell_of_row w gP _ _ 27 _ hcur] at h4
    exact h4
  rw [add_at, hsz, Nat.zero_add, cell_of_row W gP _ _ 27 _ hW]
  by_cases hkj : k = j
  · subst hkj
    rw [List.getElem?_set_self hj] at hx
    obtain rfl := Option.some.inj hx
    rw [cS_sset, Array.toList_setIfInBounds] at hu
    by_cases hmi : m = i
    · subst hmi
      have h32 : m < (cS P[k]).toList.length := by rw [Array.length_toList, cS_size]; exact hm
      rw [List.getElem?_set_self h32] at hu
      rw [Array.getElem?_setIfInBounds_self_of_lt, ← hu]
      have := hold k hj m _ (List.getElem?_eq_getElem h32)
      exact (Array.getElem?_eq_some_iff.1 this).1
    · rw [List.getElem?_set_ne (Ne.symm hmi)] at hu
      rw [Array.getElem?_setIfInBounds_ne (by omega)]
      exact hold k hj m u hu
  · rw [List.getElem?_set_ne (Ne.symm hkj)] at hx
    rw [List.getElem?_eq_getElem hk] at hx
    obtain rfl := Option.some.inj hx
    rw [Array.getElem?_setIfInBounds_ne (fun e => hkj (by omega))]
    exact hold k hk m u hu
theorem byte_at {w : World} {gP n : Nat} {P : List Sm} (h : kS.C w (some ⟨gP, 0, none⟩) n P) (j : Nat) (hj : j < P.length) (i : Nat) (hi : i < 32) : ∃ b0 : Int, (0 ≤ b0 ∧ b0 < 256) ∧ w.cell? ⟨gP, j * 32 + i, none⟩ = some (.int .u8 b0) := by
  have hl := h.1
  obtain ⟨ad, e, hc⟩ := at_flat h zS (j : Int) (by omega) (by omega)
  obtain rfl := Option.some.inj e
  rw [Int.toNat_natCast, List.getD_eq_getElem?_getD, List.getElem?_eq_getElem hj] at hc
  have hb : i < P[j].b.length := by rw [P[j].h]; exact hi
  refine ⟨P[j].b[i], P[j].r _ (List.getElem_mem hb), ?_⟩
  have := hc i (.int .u8 P[j].b[i]) (by
    show (cS P[j]).toList[i]? = _
    rw [cS, encI]
    simp only [List.toList_toArray]
    rw [List.getElem?_map, List.getElem?_eq_getElem hb]
    rfl)
  rw [add_at, add_at, Nat.zero_add] at this
  exact this
def Ty27 (w : World) (A : Option Addr) : Prop := ∀ ad, A = some ad → ∃ cells fr, w.heap[ad.block]? = some (.cells cells 27 fr)
theorem Ty27.below {w w' : World} {A : Option Addr} (h : Ty27 w A) (hb : Below w.heap.size w w') : Ty27 w' A := fun ad e => by
  obtain ⟨cells, fr, h1⟩ := h ad e
  exact ⟨cells, fr, at_next h1 hb⟩
theorem R_ty {w : World} {base : Nat} {ok : Nat → Prop} {A : Option Addr} {n c : Nat} {P : List Sm} (h : kS.R 27 w base ok (.slice A n c) P) : Ty27 w A := fun ad e => by
  subst e
  obtain ⟨inner, hi⟩ := Kd.R_own h
  obtain ⟨cells, hc⟩ := own_typed hi ad.block rfl
  exact ⟨cells, _, hc⟩
theorem Ty27.ne {w : World} {ad : Addr} (h : Ty27 w (some ad)) {b t : Nat} {fr : Nat × Nat} {cells : Array Value} (hb : w.heap[b]? = some (.cells cells t fr)) (ht : t ≠ 27) : ad.block ≠ b := fun e => by
  obtain ⟨cells', fr', h1⟩ := h ad rfl
  rw [e, hb] at h1
  injection h1 with h1
  injection h1 with _ h2
  exact ht h2
end Go.Proofs.YtanabbjakacgbaaDoor.Sp
namespace Go.Proofs.YtanabbjakacgbaaDoor.Sp
open Go.RowKit Go.Proofs.YtanabbjakacgbaaDoorW.PrintWords Go.Proofs.YtanabbjakacgbaaDoorW.PrintLast Go.Proofs.YtanabbjakacgbaaDoorW.PrintMore Go.Proofs.YtanabbjakacgbaaDoor.PM Go.Proofs.YtanabbjakacgbaaDoor.Grow
set_option linter.unusedVariables false
set_option linter.unusedSimpArgs false
set_option maxRecDepth 100000
attribute [local go_sem] Oper.semAt_some
structure OdSt (w0 : World) (g : Nat) (QQ : Array Value) (u : Value) (e : Int) (l : Lf) (v : Value) (p : List Sm) (w : World) : Prop where
  below : Below w0.heap.size w0 w
  bp : w.heap[g]? = some (.cells (cP u e l) 36 (0, 0))
  bq : w.heap[g + 1]? = some (.cells QQ 39 (0, 0))
  br : w.heap[g + 2]? = some (.cells (cP (.slice none 0 0) 0 zL) 36 (0, 0))
  row : kS.R 27 w (g + 3) (fun _ => True) v p
  lt : w0.heap.size ≤ g ∧ g + 3 ≤ w.heap.size
section
variable {w0 w w' : World} {g : Nat} {QQ : Array Value} {u u' v v' : Value} {e e' : Int} {l l' : Lf} {p p' : List Sm}
theorem OdSt.nextB (h : OdSt w0 g QQ u e l v p w) (hb : Below (g + 3) w w') (hr : kS.R 27 w' (g + 3) (fun _ => True) v' p') : OdSt w0 g QQ u e l v' p' w' :=
  ⟨h.below.trans (hb.mono (by have := h.lt; omega)), (hb.block _ (by omega)).trans h.bp, (hb.block _ (by omega)).trans h.bq, (hb.block _ (by omega)).trans h.br, hr, by have := h.lt; have := hb.size; omega⟩
theorem OdSt.next (h : OdSt w0 g QQ u e l v p w) (hb : Below w.heap.size w w') : OdSt w0 g QQ u e l v p w' :=
  h.nextB (hb.mono h.lt.2) (Kd.R_below h.row hb)
theorem OdSt.cell (h : OdSt w0 g QQ u e l v p w) (j : Nat) (x : Value) (hn : (w.setCell ⟨g, j, none⟩ x).heap[g]? = some (.cells (cP u' e' l') 36 (0, 0))) : OdSt w0 g QQ u' e' l' v p (w.setCell ⟨g, j, none⟩ x) :=
  ⟨h.below.setCell (p := ⟨g, j, none⟩) h.lt.1 _, hn, (heap_setCell_ne (by show g + 1 ≠ g; omega)).trans h.bq, (heap_setCell_ne (by show g + 2 ≠ g; omega)).trans h.br, R_setCell h.row (by omega) _, by have := h.lt; have := (Array.getElem?_eq_some_iff.1 ((heap_setCell_ne (v := x) (o := j) (w := w) (show g + 2 ≠ g by omega)).trans h.br)).1; omega⟩
structure OdE (w0 : World) (g : Nat) (u : Value) (e : Int) (l : Lf) (w : World) : Prop where
  below : Below w0.heap.size w0 w
  bp : w.heap[g]? = some (.cells (cP u e l) 36 (0, 0))
  br : w.heap[g + 2]? = some (.cells (cP (.slice none 0 0) 0 zL) 36 (0, 0))
  lt : w0.heap.size ≤ g
theorem app_Sall {wa W : World} {ops : Array Oper} {rest : List Oper} {o : Oper} {a : Act} {Q : Exit → Act → World → Prop} (hg : o.guard = none) (s x : Operand) (ho : o.op = .call { callee := .builtin .append, args := #[s, x], argTypes := #[34, 34] }) (v : Value) (xs ys : List Sm) (A : Option Addr) (c : Nat) (hs : a.eval s = v) (hx : a.eval x = .slice A ys.length c) (B : Nat) (HO : kS.R 27 W B (fun _ => True) v xs) (HR : kS.C W A ys.length ys) (HB : Below B wa W) (hB : B ≤ W.heap.size) (hl : xs.length + ys.length ≤ 1000000)
    (h : ∀ v1 w1, kS.R 27 w1 B (fun _ => True) v1 (xs ++ ys) → Below B wa w1 → wpList Tryd.prog ops Q rest (a.put o.dst v1) w1) : wpList Tryd.prog ops Q (o :: rest) a W :=
  Kd.R_append_rows kS (w0 := wa) B hg s x 34 27 (.agg (cS zS)) 32 ho Tryd.underlying34 infoS (cS_size _) (by decide) (by decide) v xs ys A ys.length c (fun _ => True) (fun _ => False) hs hx HO HR (fun _ _ h => h) (fun _ h => h.elim) (fun _ _ => trivial) HB hB (by omega) (fun v1 w1 h1 h2 _ _ => h v1 w1 h1 h2)
end
set_option maxHeartbeats 4000000 in
theorem odd_calls (p : Pf) (q0 q1 q2 q3 : Int) (hq0 : 0 ≤ q0 ∧ q0 < 256) (hq1 : 0 ≤ q1 ∧ q1 < 256) (hq2 : 0 ≤ q2 ∧ q2 < 256) (hq3 : 0 ≤ q3 ∧ q3 < 256) (A : Option Addr) (c : Nat) (w : World) (hr : kS.C w A p.p.length p.p) (hlen : p.p.length ≤ 256) (hks : p.l.k.size ≤ 100000) :
    Calls Tryd.prog 16 #[.agg (cP (.slice A p.p.length c) p.e p.l), .agg #[.int .u8 q0, .int .u8 q1, .int .u8 q2, .int .u8 q3]] w fun e w' => ∃ q : Pf, ∃ A' c' C, C = cP (.slice A' q.p.length c') q.e q.l ∧ e = .returned (.agg C) ∧ kS.C w' A' q.p.length q.p ∧ Ty27 w' A' ∧ q.p.length ≤ 257 ∧ q.l.k.size ≤ 100000 ∧ Below w.heap.size w w' := by
  have hu36 := Tryd.underlying36
  obtain ⟨QQ, hQQ⟩ : ∃ Q : Array Value, Q = #[.int .u8 q0, .int .u8 q1, .int .u8 q2, .int .u8 q3] := ⟨_, rfl⟩
  rw [← hQQ]
  obtain ⟨P, ep, lp⟩ := p
  dsimp only at hr hlen hks ⊢
  obtain ⟨C, hC⟩ : ∃ C, C = cP (.slice A P.length c) ep lp := ⟨_, rfl⟩
  rw [← hC]
  obtain ⟨g, hg⟩ : ∃ g, g = w.heap.size := ⟨_, rfl⟩
  obtain ⟨Z36, hz36⟩ : ∃ Z, Z = cP (.slice none 0 0) 0 zL := ⟨_, rfl⟩
  obtain ⟨wb, hwb⟩ : ∃ wb, ((w.alloc (.cells C 36)).alloc (.cells QQ 39)).alloc (.cells Z36 36) = wb := ⟨_, rfl⟩
  have h0 : wb.heap[g]? = some (.cells C 36 (0, 0)) := by rw [← hwb, h_old (by simp only [size_alloc]; omega), h_old (by simp only [size_alloc]; omega)]; exact h_new hg
  have h1 : wb.heap[g + 1]? = some (.cells QQ 39 (0, 0)) := by rw [← hwb, h_old (by simp only [size_alloc]; omega)]; exact h_new (by rw [size_alloc, hg])
  have h2 : wb.heap[g + 2]? = some (.cells Z36 36 (0, 0)) := by rw [← hwb]; exact h_new (by rw [size_alloc, size_alloc, hg])
  have hb : Below w.heap.size w wb := by rw [← hwb]; exact below_alloc (below_alloc (below_alloc (Below.refl _ _) _) _) _
  have hs : wb.heap.size = g + 3 := by rw [← hwb, size_alloc, size_alloc, size_alloc, hg]
  have hce : ∀ W : World, W.heap[g + 1]? = some (.cells QQ 39 (0, 0)) → W.cell? ⟨g + 1, 0, none⟩ = some (.int .u8 q0) ∧ W.cell? ⟨g + 1, 1, none⟩ = some (.int .u8 q1) ∧ W.cell? ⟨g + 1, 2, none⟩ = some (.int .u8 q2) ∧ W.cell? ⟨g + 1, 3, none⟩ = some (.int .u8 q3) := fun W h => by
    rw [hQQ] at h
    exact ⟨(cell_of_row W (g + 1) 0 _ 39 _ h).trans rfl, (cell_of_row W (g + 1) 1 _ 39 _ h).trans rfl, (cell_of_row W (g + 1) 2 _ 39 _ h).trans rfl, (cell_of_row W (g + 1) 3 _ 39 _ h).trans rfl⟩
  have HCE := Aside0.mk hce
  have HB := Aside0.mk (⟨h0, h1, h2, hb, hs, Kd.C_below hr hb⟩ : _ ∧ _ ∧ _ ∧ _ ∧ _ ∧ _)
  have HC := Aside0.mk hC
  have HG := Aside0.mk hg
  have HWB := Aside0.mk hwb
  have HZ36 := Aside0.mk (And.intro (show ∀ w, (zeroValue 36).run Tryd.prog w = .ok (.agg Z36) w by rw [hz36]; exact zero36) hz36)
  have hcx : wb.cell? ⟨g, 0, none⟩ = some (.slice A P.length c) := by rw [hC] at h0; exact cell_P0 h0
  clear h0 h1 h2 hb hs hce hwb hC hg hz36 hr hQQ
  have HP1 := Aside0.mk (show ([] : List Sm).length + P.length ≤ 1000000 by rw [List.length_nil]; omega)
  have hq6 : q0 % 6 = 0 ∨ q0 % 6 = 1 ∨ q0 % 6 = 2 ∨ q0 % 6 = 3 ∨ q0 % 6 = 4 ∨ q0 % 6 = 5 := by omega
  rcases hq6 with h | h | h | h | h | h
  · have hf0 : (q0 % 6 == 0) = true := by rw [h]; rfl
    clear h
    go_enter Tryd.func16, Tryd.ntmps16
    go_wp2_with (first
      | ((with_reducible refine gate_dst (N := 4) rfl ?_); (refine wpList_allocz rfl 36 Z36 rfl HZ36.out.1 ?_); rw [HWB.out, size_alloc, size_alloc, show w.heap.size + 1 + 1 = g + 2 by rw [HG.out], ← HG.out])
      | ((with_reducible refine gate_dst (N := 5) rfl ?_); (refine wpList_bs0 kS (wa := wb) rfl 34 27 rfl rfl 32 32 _ Tryd.underlying34 infoS (g + 3) (Below.refl _ _) (by rw [HB.out.2.2.2.2.1]; exact Nat.le_refl _) ?_); intro v0 w1 hr0 hb0 hs0; have hcp : kS.C w1 A P.length P := Kd.C_below HB.out.2.2.2.2.2 (show Below wb.heap.size wb w1 by rw [HB.out.2.2.2.2.1]; exact hb0); have hz1 : g + 3 ≤ w1.heap.size := (by have := HB.out.2.2.2.2.1; omega); have H1 := Aside0.mk (⟨hr0, hb0, hcp, hz1⟩ : _ ∧ _ ∧ _ ∧ _); have hcx1 := (hb0.block g (by omega)); have hcx1 := (World.cell?_of_block (a := ⟨g, 0, none⟩) hcx1).trans hcx; clear hr0 hb0 hs0 hcx hcp hz1)
      | ((with_reducible refine gate_dst (N := 8) rfl ?_); (refine app_Sall (wa := wb) rfl (.tmp 5) (.tmp 7) rfl v0 [] P A c rfl rfl (g + 3) H1.out.1 H1.out.2.2.1 H1.out.2.1 H1.out.2.2.2 HP1.out ?_); intro v1 w2 hr1 hb1; rw [List.nil_append] at hr1; (obtain ⟨A8, c8, e8⟩ := Kd.R_slice hr1); subst e8; have H2 : Aside0 (OdSt w g QQ (.slice A P.length c) ep lp (.slice A8 P.length c8) P w2) := Aside0.mk ⟨HB.out.2.2.2.1.trans (hb1.mono (by have := HG.out; omega)), (hb1.block _ (by omega)).trans (by rw [← HC.out]; exact HB.out.1), (hb1.block _ (by omega)).trans HB.out.2.1, (hb1.block _ (by omega)).trans (by rw [← HZ36.out.2]; exact HB.out.2.2.1), hr1, (by have := HG.out; have := hb1.size; have := HB.out.2.2.2.2.1; omega)⟩; clear hr1 hb1 hcx1)
      | ((with_reducible refine gate_store (t := 34) (p := 9) rfl ?_); refine wpList_store_run rfl rfl (ad := ⟨g, 0, none⟩) (v := .slice A8 P.length c8) rfl rfl _ (run_c (by kernel_rfl) rfl rfl 0 (by decide) H2.out.bp) ?_; obtain ⟨w3, hw3⟩ : ∃ W, w2.setCell ⟨g, 0, none⟩ (.slice A8 P.length c8) = W := ⟨_, rfl⟩; refine at_world hw3 ?_; have st := H2.out.cell 0 (.slice A8 P.length c8) (set_P0 H2.out.bp); rw [hw3] at st; have H3 := Aside0.mk st; have hy0 := (HCE.out w3 st.bq).1; have hy1 := (HCE.out w3 st.bq).2.1; have hyp := cell_P0 st.bp; clear hw3 st; skip)
      | ((with_reducible refine gate_store (t := 3) (p := 44) rfl ?_); refine wpList_store_run rfl rfl (ad := ⟨g, 1, none⟩) (v := .int .i64 (q1 % 4)) rfl rfl _ (run_c (by kernel_rfl) rfl rfl 1 (by decide) H3.out.bp) ?_; obtain ⟨w4, hww⟩ : ∃ W, w3.setCell ⟨g, 1, none⟩ (.int .i64 (q1 % 4)) = W := ⟨_, rfl⟩; refine at_world hww ?_; have stF := H3.out.cell 1 (.int .i64 (q1 % 4)) (set_P1 (q1 % 4) H3.out.bp); rw [hww] at stF; clear hww; obtain ⟨CF, hCF⟩ : ∃ C, C = cP (.slice A8 P.length c8) (q1 % 4) lp := ⟨_, rfl⟩; have HF := Aside0.mk (⟨stF, hCF, fun W h => (R_C h).2.2, by omega, hks⟩ : OdSt w g QQ (.slice A8 P.length c8) (q1 % 4) lp (.slice A8 P.length c8) P w4 ∧ CF = _ ∧ (∀ W : World, kS.R 27 W (g + 3) (fun _ => True) (.slice A8 P.length c8) P → kS.C W A8 (P).length (P)) ∧ (P).length ≤ 257 ∧ _); clear stF hCF)
      | ((with_reducible refine gate_dst (N := 92) rfl ?_); (refine wpList_loadv rfl 36 _ rfl _ rfl _ (ld_Pf HF.out.2.1 (by rw [HF.out.2.1]; exact HF.out.1.bp)) ?_))
      | ((with_reducible refine gate_store (t := 36) (p := 4) rfl ?_); (refine wpList_store_row rfl 36 (.tmp 4) (.tmp 92) rfl (g + 2) CF rfl rfl 36 (cP (.slice none 0 0) 0 zL) HF.out.1.br (by rw [HF.out.2.1, cP_size]; kernel_rfl) (by rw [HF.out.2.1, cP_size, cP_size]) (by rw [HF.out.2.1]; exact all_one (cP_one rfl _ _)) ?_)))
    refine bodyPost_ret (v := .agg CF) ?_ rfl ⟨⟨P, (q1 % 4), lp⟩, A8, c8, CF, HF.out.2.1, rfl, HF.out.2.2.1 _ (R_setRow HF.out.1.row (by omega) CF), R_ty (R_setRow HF.out.1.row (by omega) CF), HF.out.2.2.2.1, HF.out.2.2.2.2, below_setRow HF.out.1.below (by have := HF.out.1.lt; omega)⟩
    exact results_cell_row rfl _ _ (g + 2) 36 _ (0, 0) _ rfl (setRow_heap _ _ _ _ _ _ HF.out.1.br) hu36 rfl (by rw [HF.out.2.1, cP_size]; kernel_rfl)
  · have hf0 : (q0 % 6 == 0) = false := by rw [h]; rfl
    have hf1 : (q0 % 6 == 1) = true := by rw [h]; rfl
    clear h
    go_enter Tryd.func16, Tryd.ntmps16
    go_wp2_with (first
      | ((with_reducible refine gate_dst (N := 4) rfl ?_); (refine wpList_allocz rfl 36 Z36 rfl HZ36.out.1 ?_); rw [HWB.out, size_alloc, size_alloc, show w.heap.size + 1 + 1 = g + 2 by rw [HG.out], ← HG.out])
      | ((with_reducible refine gate_dst (N := 5) rfl ?_); (refine wpList_bs0 kS (wa := wb) rfl 34 27 rfl rfl 32 32 _ Tryd.underlying34 infoS (g + 3) (Below.refl _ _) (by rw [HB.out.2.2.2.2.1]; exact Nat.le_refl _) ?_); intro v0 w1 hr0 hb0 hs0; have hcp : kS.C w1 A P.length P := Kd.C_below HB.out.2.2.2.2.2 (show Below wb.heap.size wb w1 by rw [HB.out.2.2.2.2.1]; exact hb0); have hz1 : g + 3 ≤ w1.heap.size := (by have := HB.out.2.2.2.2.1; omega); have H1 := Aside0.mk (⟨hr0, hb0, hcp, hz1⟩ : _ ∧ _ ∧ _ ∧ _); have hcx1 := (hb0.block g (by omega)); have hcx1 := (World.cell?_of_block (a := ⟨g, 0, none⟩) hcx1).trans hcx; clear hr0 hb0 hs0 hcx hcp hz1)
      | ((with_reducible refine gate_dst (N := 8) rfl ?_); (refine app_Sall (wa := wb) rfl (.tmp 5) (.tmp 7) rfl v0 [] P A c rfl rfl (g + 3) H1.out.1 H1.out.2.2.1 H1.out.2.1 H1.out.2.2.2 HP1.out ?_); intro v1 w2 hr1 hb1; rw [List.nil_append] at hr1; (obtain ⟨A8, c8, e8⟩ := Kd.R_slice hr1); subst e8; have H2 : Aside0 (OdSt w g QQ (.slice A P.length c) ep lp (.slice A8 P.length c8) P w2) := Aside0.mk ⟨HB.out.2.2.2.1.trans (hb1.mono (by have := HG.out; omega)), (hb1.block _ (by omega)).trans (by rw [← HC.out]; exact HB.out.1), (hb1.block _ (by omega)).trans HB.out.2.1, (hb1.block _ (by omega)).trans (by rw [← HZ36.out.2]; exact HB.out.2.2.1), hr1, (by have := HG.out; have := hb1.size; have := HB.out.2.2.2.2.1; omega)⟩; clear hr1 hb1 hcx1)
      | ((with_reducible refine gate_store (t := 34) (p := 9) rfl ?_); refine wpList_store_run rfl rfl (ad := ⟨g, 0, none⟩) (v := .slice A8 P.length c8) rfl rfl _ (run_c (by kernel_rfl) rfl rfl 0 (by decide) H2.out.bp) ?_; obtain ⟨w3, hw3⟩ : ∃ W, w2.setCell ⟨g, 0, none⟩ (.slice A8 P.length c8) = W := ⟨_, rfl⟩; refine at_world hw3 ?_; have st := H2.out.cell 0 (.slice A8 P.length c8) (set_P0 H2.out.bp); rw [hw3] at st; have H3 := Aside0.mk st; have hy0 := (HCE.out w3 st.bq).1; have hy1 := (HCE.out w3 st.bq).2.1; have hyp := cell_P0 st.bp; clear hw3 st; skip)
      | (go_at_call 15; (with_reducible refine (Key_calls q1 hq1 w3).mono ?_); rintro e wk ⟨rfl, hbk⟩; have H4 := Aside0.mk (H3.out.next hbk); clear hbk)
      | ((with_reducible refine gate_store (t := 9) (p := 51) rfl ?_); refine wpList_store_run rfl rfl (ad := ⟨g, 2, none⟩) (v := .string (keyB q1)) rfl rfl _ (run_c (by kernel_rfl) rfl rfl 2 (by decide) H4.out.bp) ?_; obtain ⟨w4, hww⟩ : ∃ W, wk.setCell ⟨g, 2, none⟩ (.string (keyB q1)) = W := ⟨_, rfl⟩; refine at_world hww ?_; have stF := H4.out.cell 2 (.string (keyB q1)) (set_PK (keyB q1) H4.out.bp); rw [hww] at stF; clear hww; obtain ⟨CF, hCF⟩ : ∃ C, C = cP (.slice A8 P.length c8) ep ⟨keyB q1, lp.v⟩ := ⟨_, rfl⟩; have HF := Aside0.mk (⟨stF, hCF, fun W h => (R_C h).2.2, by omega, by show (keyB q1).size ≤ 100000; have : (keyB q1).size = 4 := rfl; omega⟩ : OdSt w g QQ (.slice A8 P.length c8) ep ⟨keyB q1, lp.v⟩ (.slice A8 P.length c8) P w4 ∧ CF = _ ∧ (∀ W : World, kS.R 27 W (g + 3) (fun _ => True) (.slice A8 P.length c8) P → kS.C W A8 (P).length (P)) ∧ (P).length ≤ 257 ∧ _); clear stF hCF)
      | ((with_reducible refine gate_dst (N := 92) rfl ?_); (refine wpList_loadv rfl 36 _ rfl _ rfl _ (ld_Pf HF.out.2.1 (by rw [HF.out.2.1]; exact HF.out.1.bp)) ?_))
      | ((with_reducible refine gate_store (t := 36) (p := 4) rfl ?_); (refine wpList_store_row rfl 36 (.tmp 4) (.tmp 92) rfl (g + 2) CF rfl rfl 36 (cP (.slice none 0 0) 0 zL) HF.out.1.br (by rw [HF.out.2.1, cP_size]; kernel_rfl) (by rw [HF.out.2.1, cP_size, cP_size]) (by rw [HF.out.2.1]; exact all_one (cP_one rfl _ _)) ?_)))
    refine bodyPost_ret (v := .agg CF) ?_ rfl ⟨⟨P, ep, ⟨keyB q1, lp.v⟩⟩, A8, c8, CF, HF.out.2.1, rfl, HF.out.2.2.1 _ (R_setRow HF.out.1.row (by omega) CF), R_ty (R_setRow HF.out.1.row (by omega) CF), HF.out.2.2.2.1, HF.out.2.2.2.2, below_setRow HF.out.1.below (by have := HF.out.1.lt; omega)⟩
    exact results_cell_row rfl _ _ (g + 2) 36 _ (0, 0) _ rfl (setRow_heap _ _ _ _ _ _ HF.out.1.br) hu36 rfl (by rw [HF.out.2.1, cP_size]; kernel_rfl)
  · have hf0 : (q0 % 6 == 0) = false := by rw [h]; rfl
    have hf1 : (q0 % 6 == 1) = false := by rw [h]; rfl
    have hf2 : (q0 % 6 == 2) = true := by rw [h]; rfl
    clear h
    obtain ⟨i, hi⟩ : ∃ i, (q1 % 32).toNat = i := ⟨_, rfl⟩
    have hi32 : i < 32 := by omega
    have hti : q1.tmod 32 = (i : Int) := by rw [Int.tmod_eq_emod_of_nonneg hq1.1]; omega
    obtain ⟨b0, hb0⟩ : ∃ b, lp.v.b.getD i 0 = b := ⟨_, rfl⟩
    have hbr : 0 ≤ b0 ∧ b0 < 256 := by
      rw [← hb0, List.getD_eq_getElem?_getD, List.getElem?_eq_getElem (by rw [lp.v.h]; exact hi32)]
      exact lp.v.r _ (List.getElem_mem _)
    have hcb : (cS lp.v).toList[i]? = some (.int .u8 b0) := by
      rw [← hb0, cS, encI]
      simp only [List.toList_toArray]
      rw [List.getElem?_map, List.getD_eq_getElem?_getD, List.getElem?_eq_getElem (by rw [lp.v.h]; exact hi32)]
      rfl
    have HI := Aside0.mk (⟨hi32, hti, hcb, hbr⟩ : _ ∧ _ ∧ _ ∧ _)
    have c7b : ((i : Int) < 32) = True := eq_true (by omega)
    have c7c : ((0 : Int) ≤ (i : Int)) = True := eq_true (by omega)
    clear hi hi32 hti hb0 hcb hbr
    go_enter Tryd.func16, Tryd.ntmps16
    go_wp2_with (first
      | ((with_reducible refine gate_dst (N := 4) rfl ?_); (refine wpList_allocz rfl 36 Z36 rfl HZ36.out.1 ?_); rw [HWB.out, size_alloc, size_alloc, show w.heap.size + 1 + 1 = g + 2 by rw [HG.out], ← HG.out])
      | ((with_reducible refine gate_dst (N := 5) rfl ?_); (refine wpList_bs0 kS (wa := wb) rfl 34 27 rfl rfl 32 32 _ Tryd.underlying34 infoS (g + 3) (Below.refl _ _) (by rw [HB.out.2.2.2.2.1]; exact Nat.le_refl _) ?_); intro v0 w1 hr0 hb0 hs0; have hcp : kS.C w1 A P.length P := Kd.C_below HB.out.2.2.2.2.2 (show Below wb.heap.size wb w1 by rw [HB.out.2.2.2.2.1]; exact hb0); have hz1 : g + 3 ≤ w1.heap.size := (by have := HB.out.2.2.2.2.1; omega); have H1 := Aside0.mk (⟨hr0, hb0, hcp, hz1⟩ : _ ∧ _ ∧ _ ∧ _); have hcx1 := (hb0.block g (by omega)); have hcx1 := (World.cell?_of_block (a := ⟨g, 0, none⟩) hcx1).trans hcx; clear hr0 hb0 hs0 hcx hcp hz1)
      | ((with_reducible refine gate_dst (N := 8) rfl ?_); (refine app_Sall (wa := wb) rfl (.tmp 5) (.tmp 7) rfl v0 [] P A c rfl rfl (g + 3) H1.out.1 H1.out.2.2.1 H1.out.2.1 H1.out.2.2.2 HP1.out ?_); intro v1 w2 hr1 hb1; rw [List.nil_append] at hr1; (obtain ⟨A8, c8, e8⟩ := Kd.R_slice hr1); subst e8; have H2 : Aside0 (OdSt w g QQ (.slice A P.length c) ep lp (.slice A8 P.length c8) P w2) := Aside0.mk ⟨HB.out.2.2.2.1.trans (hb1.mono (by have := HG.out; omega)), (hb1.block _ (by omega)).trans (by rw [← HC.out]; exact HB.out.1), (hb1.block _ (by omega)).trans HB.out.2.1, (hb1.block _ (by omega)).trans (by rw [← HZ36.out.2]; exact HB.out.2.2.1), hr1, (by have := HG.out; have := hb1.size; have := HB.out.2.2.2.2.1; omega)⟩; clear hr1 hb1 hcx1)
      | ((with_reducible refine gate_store (t := 34) (p := 9) rfl ?_); refine wpList_store_run rfl rfl (ad := ⟨g, 0, none⟩) (v := .slice A8 P.length c8) rfl rfl _ (run_c (by kernel_rfl) rfl rfl 0 (by decide) H2.out.bp) ?_; obtain ⟨w3, hw3⟩ : ∃ W, w2.setCell ⟨g, 0, none⟩ (.slice A8 P.length c8) = W := ⟨_, rfl⟩; refine at_world hw3 ?_; have st := H2.out.cell 0 (.slice A8 P.length c8) (set_P0 H2.out.bp); rw [hw3] at st; have H3 := Aside0.mk st; have hy0 := (HCE.out w3 st.bq).1; have hy1 := (HCE.out w3 st.bq).2.1; have hyp := cell_P0 st.bp; clear hw3 st; skip))
    refine start_ (n := 15) (S := fun w' => Below w3.heap.size w3 w') (ds := [14]) #[false, false, false, false, false, false, false, false, false, false, false, false, false, false, false] (by kernel_rfl) rfl rfl (Below.refl _ _).drew (fun hHeld => ?_)
    refine pure_ (i := 0) (N := some 54) (v := ?_) (a' := ?_) #[true, false, false, false, false, false, false, false, false, false, false, false, false, false, false] rfl rfl (by kernel_rfl) (fun _ _ _ h => h) (Or.inl ⟨by rfl, ?_⟩) ?_ ?_
    rotate_left
    · intro w'
      go_simp
      with_reducible rfl
    rotate_left
    · simp only [Act.put, List.setIfInBounds_toArray, List.set_cons_zero, List.set_cons_succ, i64_w, i32_w]
      rfl
    refine take_ (i := 1) (N := some 55) (v := ?_) (a' := ?_) #[true, true, false, false, false, false, false, false, false, false, false, false, false, false, false] rfl rfl (by kernel_rfl) (fun _ _ _ h => h) (Or.inl ⟨by rfl, ?_⟩) hHeld ?_ ?_
    rotate_left
    · intro w' hS
      have hx := (HCE.out w' (H3.out.next hS).bq).2.1
      go_simp
      with_reducible rfl
    rotate_left
    · simp only [Act.put, List.setIfInBounds_toArray, List.set_cons_zero, List.set_cons_succ, i64_w, i32_w]
      rfl
    refine pure_ (i := 2) (N := some 56) (v := ?_) (a' := ?_) #[true, true, true, false, false, false, false, false, false, false, false, false, false, false, false] rfl rfl (by kernel_rfl) (fun _ _ _ h => h) (Or.inl ⟨by rfl, ?_⟩) ?_ ?_
    rotate_left
    · intro w'
      go_simp
      rw [HI.out.2.1]
      try with_reducible rfl
    rotate_left
    · simp only [Act.put, List.setIfInBounds_toArray, List.set_cons_zero, List.set_cons_succ, i64_w, i32_w]
      rfl
    refine pure_ (i := 3) (N := some 57) (v := ?_) (a' := ?_) #[true, true, true, true, false, false, false, false, false, false, false, false, false, false, false] rfl rfl (by kernel_rfl) (fun _ _ _ h => h) (Or.inl ⟨by rfl, ?_⟩) ?_ ?_
    rotate_left
    · intro w'
      go_simp
      with_reducible rfl
    rotate_left
    · simp only [Act.put, List.setIfInBounds_toArray, List.set_cons_zero, List.set_cons_succ, i64_w, i32_w]
      rfl
    refine pure_ (i := 4) (N := some 58) (v := ?_) (a' := ?_) #[true, true, true, true, true, false, false, false, false, false, false, false, false, false, false] rfl rfl (by kernel_rfl) (fun _ _ _ h => h) (Or.inl ⟨by rfl, ?_⟩) ?_ ?_
    rotate_left
    · intro w'
      go_simp
      with_reducible rfl
    rotate_left
    · simp only [Act.put, List.setIfInBounds_toArray, List.set_cons_zero, List.set_cons_succ, i64_w, i32_w]
      rfl
    refine pure_ (i := 5) (N := some 59) (v := ?_) (a' := ?_) #[true, true, true, true, true, true, false, false, false, false, false, false, false, false, false] rfl rfl (by kernel_rfl) (fun _ _ _ h => h) (Or.inl ⟨by rfl, ?_⟩) ?_ ?_
    rotate_left
    · intro w'
      go_simp
      with_reducible rfl
    rotate_left
    · simp only [Act.put, List.setIfInBounds_toArray, List.set_cons_zero, List.set_cons_succ, i64_w, i32_w]
      rfl
    refine take_ (i := 6) (N := some 60) (v := ?_) (a' := ?_) #[true, true, true, true, true, true, true, false, false, false, false, false, false, false, false] rfl rfl (by kernel_rfl) (fun _ _ _ h => h) (Or.inl ⟨by rfl, ?_⟩) hHeld ?_ ?_
    rotate_left
    · intro w' hS
      have hx : w'.cell? ⟨g, 3 + i, none⟩ = some (.int .u8 b0) := by have h := cells_P3 (H3.out.next hS).bp i _ HI.out.2.2.1; rwa [add_at] at h
      go_simp
      with_reducible rfl
    rotate_left
    · simp only [Act.put, List.setIfInBounds_toArray, List.set_cons_zero, List.set_cons_succ, i64_w, i32_w]
      rfl
    refine pure_ (i := 7) (N := some 61) (v := ?_) (a' := ?_) #[true, true, true, true, true, true, true, true, false, false, false, false, false, false, false] rfl rfl (by kernel_rfl) (fun _ _ _ h => h) (Or.inl ⟨by rfl, ?_⟩) ?_ ?_
    rotate_left
    · intro w'
      go_simp
      with_reducible rfl
    rotate_left
    · simp only [Act.put, List.setIfInBounds_toArray, List.set_cons_zero, List.set_cons_succ, i64_w, i32_w]
      rfl
    refine take_ (i := 8) (N := some 62) (v := ?_) (a' := ?_) #[true, true, true, true, true, true, true, true, true, false, false, false, false, false, false] rfl rfl (by kernel_rfl) (fun _ _ _ h => h) (Or.inl ⟨by rfl, ?_⟩) hHeld ?_ ?_
    rotate_left
    · intro w' hS
      have hx := (HCE.out w' (H3.out.next hS).bq).2.2.1
      go_simp
      with_reducible rfl
    rotate_left
    · simp only [Act.put, List.setIfInBounds_toArray, List.set_cons_zero, List.set_cons_succ, i64_w, i32_w]
      rfl
    refine pure_ (i := 9) (N := some 63) (v := ?_) (a' := ?_) #[true, true, true, true, true, true, true, true, true, true, false, false, false, false, false] rfl rfl (by kernel_rfl) (fun _ _ _ h => h) (Or.inl ⟨by rfl, ?_⟩) ?_ ?_
    rotate_left
    · intro w'
      go_simp
      with_reducible rfl
    rotate_left
    · simp only [Act.put, List.setIfInBounds_toArray, List.set_cons_zero, List.set_cons_succ, i64_w, i32_w]
      rfl
    refine pure_ (i := 10) (N := some 64) (v := ?_) (a' := ?_) #[true, true, true, true, true, true, true, true, true, true, true, false, false, false, false] rfl rfl (by kernel_rfl) (fun _ _ _ h => h) (Or.inl ⟨by rfl, ?_⟩) ?_ ?_
    rotate_left
    · intro w'
      go_simp
      with_reducible rfl
    rotate_left
    · simp only [Act.put, List.setIfInBounds_toArray, List.set_cons_zero, List.set_cons_succ, i64_w, i32_w]
      rfl
    refine pure_ (i := 11) (N := some 65) (v := ?_) (a' := ?_) #[true, true, true, true, true, true, true, true, true, true, true, true, false, false, false] rfl rfl (by kernel_rfl) (fun _ _ _ h => h) (Or.inl ⟨by rfl, ?_⟩) ?_ ?_
    rotate_left
    · intro w'
      go_simp
      with_reducible rfl
    rotate_left
    · simp only [Act.put, List.setIfInBounds_toArray, List.set_cons_zero, List.set_cons_succ, i64_w, i32_w]
      rfl
    refine pure_ (i := 12) (N := some 66) (v := ?_) (a' := ?_) #[true, true, true, true, true, true, true, true, true, true, true, true, true, false, false] rfl rfl (by kernel_rfl) (fun _ _ _ h => h) (Or.inl ⟨by rfl, ?_⟩) ?_ ?_
    rotate_left
    · intro w'
      go_simp
      with_reducible rfl
    rotate_left
    · simp only [Act.put, List.setIfInBounds_toArray, List.set_cons_zero, List.set_cons_succ, i64_w, i32_w]
      rfl
    refine pure_ (i := 13) (N := some 67) (v := ?_) (a' := ?_) #[true, true, true, true, true, true, true, true, true, true, true, true, true, true, false] rfl rfl (by kernel_rfl) (fun _ _ _ h => h) (Or.inl ⟨by rfl, ?_⟩) ?_ ?_
    rotate_left
    · intro w'
      go_simp
      with_reducible rfl
    rotate_left
    · simp only [Act.put, List.setIfInBounds_toArray, List.set_cons_zero, List.set_cons_succ, i64_w, i32_w]
      rfl
    refine last_ (i := 14) (N := none) #[true, true, true, true, true, true, true, true, true, true, true, true, true, true, true] rfl rfl (by kernel_rfl) (by decide) (fun K hK => ?_)
    refine st_any (by rfl) rfl rfl (ad := ⟨g, 3 + i, none⟩) (v := .int .u8 (bits .xor .u8 b0 (max q2 1))) rfl rfl (run_c (by kernel_rfl) rfl rfl (3 + i) (by have := HI.out.1; omega) (H3.out.next hHeld).bp) ?_
    refine hK.out _ _ ?_
    clear hK K
    refine done_ (by kernel_rfl) ?_
    obtain ⟨lq, hlk, hlq⟩ := set_PB (H3.out.next hHeld).bp i (bits .xor .u8 b0 (max q2 1)) (xor_ok HI.out.2.2.2 (by omega))
    have stF := (H3.out.next hHeld).cell (3 + i) (.int .u8 (bits .xor .u8 b0 (max q2 1))) hlq
    obtain ⟨w4, hww⟩ : ∃ W, (w3.drew).setCell ⟨g, 3 + i, none⟩ (.int .u8 (bits .xor .u8 b0 (max q2 1))) = W := ⟨_, rfl⟩
    rw [hww] at stF ⊢
    have hlqk : lq.k.size ≤ 100000 := by rw [hlk]; exact hks
    obtain ⟨CF, hCF⟩ : ∃ C, C = cP (.slice A8 P.length c8) ep lq := ⟨_, rfl⟩
    have HF := Aside0.mk (⟨stF, hCF, fun W h => (R_C h).2.2, (by omega), hlqk⟩ : OdSt w g QQ (.slice A8 P.length c8) ep lq (.slice A8 P.length c8) P w4 ∧ CF = _ ∧ (∀ W : World, kS.R 27 W (g + 3) (fun _ => True) (.slice A8 P.length c8) P → kS.C W A8 (P).length (P)) ∧ (P).length ≤ 257 ∧ _)
    clear stF hCF
    clear hlk hlq hww hHeld
    go_wp2_with (first
      | ((with_reducible refine gate_dst (N := 92) rfl ?_); (refine wpList_loadv rfl 36 _ rfl _ rfl _ (ld_Pf HF.out.2.1 (by rw [HF.out.2.1]; exact HF.out.1.bp)) ?_))
      | ((with_reducible refine gate_store (t := 36) (p := 4) rfl ?_); (refine wpList_store_row rfl 36 (.tmp 4) (.tmp 92) rfl (g + 2) CF rfl rfl 36 (cP (.slice none 0 0) 0 zL) HF.out.1.br (by rw [HF.out.2.1, cP_size]; kernel_rfl) (by rw [HF.out.2.1, cP_size, cP_size]) (by rw [HF.out.2.1]; exact all_one (cP_one rfl _ _)) ?_)))
    refine bodyPost_ret (v := .agg CF) ?_ rfl ⟨⟨P, ep, lq⟩, A8, c8, CF, HF.out.2.1, rfl, HF.out.2.2.1 _ (R_setRow HF.out.1.row (by omega) CF), R_ty (R_setRow HF.out.1.row (by omega) CF), HF.out.2.2.2.1, HF.out.2.2.2.2, below_setRow HF.out.1.below (by have := HF.out.1.lt; omega)⟩
    exact results_cell_row rfl _ _ (g + 2) 36 _ (0, 0) _ rfl (setRow_heap _ _ _ _ _ _ HF.out.1.br) hu36 rfl (by rw [HF.out.2.1, cP_size]; kernel_rfl)
  · have hf0 : (q0 % 6 == 0) = false := by rw [h]; rfl
    have hf1 : (q0 % 6 == 1) = false := by rw [h]; rfl
    have hf2 : (q0 % 6 == 2) = false := by rw [h]; rfl
    have hf3 : (q0 % 6 == 3) = true := by rw [h]; rfl
    clear h
    go_enter Tryd.func16, Tryd.ntmps16
    go_wp2_with (first
      | ((with_reducible refine gate_dst (N := 4) rfl ?_); (refine wpList_allocz rfl 36 Z36 rfl HZ36.out.1 ?_); rw [HWB.out, size_alloc, size_alloc, show w.heap.size + 1 + 1 = g + 2 by rw [HG.out], ← HG.out])
      | ((with_reducible refine gate_dst (N := 5) rfl ?_); (refine wpList_bs0 kS (wa := wb) rfl 34 27 rfl rfl 32 32 _ Tryd.underlying34 infoS (g + 3) (Below.refl _ _) (by rw [HB.out.2.2.2.2.1]; exact Nat.le_refl _) ?_); intro v0 w1 hr0 hb0 hs0; have hcp : kS.C w1 A P.length P := Kd.C_below HB.out.2.2.2.2.2 (show Below wb.heap.size wb w1 by rw [HB.out.2.2.2.2.1]; exact hb0); have hz1 : g + 3 ≤ w1.heap.size := (by have := HB.out.2.2.2.2.1; omega); have H1 := Aside0.mk (⟨hr0, hb0, hcp, hz1⟩ : _ ∧ _ ∧ _ ∧ _); have hcx1 := (hb0.block g (by omega)); have hcx1 := (World.cell?_of_block (a := ⟨g, 0, none⟩) hcx1).trans hcx; clear hr0 hb0 hs0 hcx hcp hz1)
      | ((with_reducible refine gate_dst (N := 8) rfl ?_); (refine app_Sall (wa := wb) rfl (.tmp 5) (.tmp 7) rfl v0 [] P A c rfl rfl (g + 3) H1.out.1 H1.out.2.2.1 H1.out.2.1 H1.out.2.2.2 HP1.out ?_); intro v1 w2 hr1 hb1; rw [List.nil_append] at hr1; (obtain ⟨A8, c8, e8⟩ := Kd.R_slice hr1); subst e8; have H2 : Aside0 (OdSt w g QQ (.slice A P.length c) ep lp (.slice A8 P.length c8) P w2) := Aside0.mk ⟨HB.out.2.2.2.1.trans (hb1.mono (by have := HG.out; omega)), (hb1.block _ (by omega)).trans (by rw [← HC.out]; exact HB.out.1), (hb1.block _ (by omega)).trans HB.out.2.1, (hb1.block _ (by omega)).trans (by rw [← HZ36.out.2]; exact HB.out.2.2.1), hr1, (by have := HG.out; have := hb1.size; have := HB.out.2.2.2.2.1; omega)⟩; clear hr1 hb1 hcx1)
      | ((with_reducible refine gate_store (t := 34) (p := 9) rfl ?_); refine wpList_store_run rfl rfl (ad := ⟨g, 0, none⟩) (v := .slice A8 P.length c8) rfl rfl _ (run_c (by kernel_rfl) rfl rfl 0 (by decide) H2.out.bp) ?_; obtain ⟨w3, hw3⟩ : ∃ W, w2.setCell ⟨g, 0, none⟩ (.slice A8 P.length c8) = W := ⟨_, rfl⟩; refine at_world hw3 ?_; have st := H2.out.cell 0 (.slice A8 P.length c8) (set_P0 H2.out.bp); rw [hw3] at st; have H3 := Aside0.mk st; have hy0 := (HCE.out w3 st.bq).1; have hy1 := (HCE.out w3 st.bq).2.1; have hyp := cell_P0 st.bp; clear hw3 st; skip)
      | ((with_reducible refine gate_dst (N := 74) rfl ?_); (refine bld_S1 rfl (.tmp 73) rfl q1 hq1 rfl ?_))
      | ((with_reducible refine gate_dst (N := 75) rfl ?_); (refine bs1_S rfl _ rfl (sB q1) rfl ?_))
      | ((with_reducible refine gate_dst (N := 76) rfl ?_); (refine app_S (wa := w3) rfl (.tmp 71) (.tmp 75) rfl (.slice A8 P.length c8) P (sB q1) rfl rfl (g + 3) H3.out.row (Below.refl _ _) H3.out.lt.2 (by omega) ?_); intro v2 wk hrk hbk hsk; (obtain ⟨P2, hP2⟩ : ∃ P2, P ++ [sB q1] = P2 := ⟨_, rfl⟩); rw [hP2] at hrk; have HP2 := Aside0.mk (show P2.length ≤ 257 by rw [← hP2, List.length_append]; show P.length + 1 ≤ 257; omega); clear hP2; (obtain ⟨A9, c9, e9⟩ := Kd.R_slice hrk); subst e9; have H4 := Aside0.mk (H3.out.nextB hbk hrk); clear hrk hbk hsk)
      | ((with_reducible refine gate_store (t := 34) (p := 77) rfl ?_); refine wpList_store_run rfl rfl (ad := ⟨g, 0, none⟩) (v := .slice A9 P2.length c9) rfl rfl _ (run_c (by kernel_rfl) rfl rfl 0 (by decide) H4.out.bp) ?_; obtain ⟨w4, hww⟩ : ∃ W, wk.setCell ⟨g, 0, none⟩ (.slice A9 P2.length c9) = W := ⟨_, rfl⟩; refine at_world hww ?_; have stF := H4.out.cell 0 (.slice A9 P2.length c9) (set_P0 H4.out.bp); rw [hww] at stF; clear hww; obtain ⟨CF, hCF⟩ : ∃ C, C = cP (.slice A9 P2.length c9) ep lp := ⟨_, rfl⟩; have HF := Aside0.mk (⟨stF, hCF, fun W h => (R_C h).2.2, HP2.out, hks⟩ : OdSt w g QQ (.slice A9 P2.length c9) ep lp (.slice A9 P2.length c9) P2 w4 ∧ CF = _ ∧ (∀ W : World, kS.R 27 W (g + 3) (fun _ => True) (.slice A9 P2.length c9) P2 → kS.C W A9 (P2).length (P2)) ∧ (P2).length ≤ 257 ∧ _); clear stF hCF)
      | ((with_reducible refine gate_dst (N := 92) rfl ?_); (refine wpList_loadv rfl 36 _ rfl _ rfl _ (ld_Pf HF.out.2.1 (by rw [HF.out.2.1]; exact HF.out.1.bp)) ?_))
      | ((with_reducible refine gate_store (t := 36) (p := 4) rfl ?_); (refine wpList_store_row rfl 36 (.tmp 4) (.tmp 92) rfl (g + 2) CF rfl rfl 36 (cP (.slice none 0 0) 0 zL) HF.out.1.br (by rw [HF.out.2.1, cP_size]; kernel_rfl) (by rw [HF.out.2.1, cP_size, cP_size]) (by rw [HF.out.2.1]; exact all_one (cP_one rfl _ _)) ?_)))
    refine bodyPost_ret (v := .agg CF) ?_ rfl ⟨⟨P2, ep, lp⟩, A9, c9, CF, HF.out.2.1, rfl, HF.out.2.2.1 _ (R_setRow HF.out.1.row (by omega) CF), R_ty (R_setRow HF.out.1.row (by omega) CF), HF.out.2.2.2.1, HF.out.2.2.2.2, below_setRow HF.out.1.below (by have := HF.out.1.lt; omega)⟩
    exact results_cell_row rfl _ _ (g + 2) 36 _ (0, 0) _ rfl (setRow_heap _ _ _ _ _ _ HF.out.1.br) hu36 rfl (by rw [HF.out.2.1, cP_size]; kernel_rfl)
  · have hf0 : (q0 % 6 == 0) = false := by rw [h]; rfl
    have hf1 : (q0 % 6 == 1) = false := by rw [h]; rfl
    have hf2 : (q0 % 6 == 2) = false := by rw [h]; rfl
    have hf3 : (q0 % 6 == 3) = false := by rw [h]; rfl
    have hf4 : (q0 % 6 == 4) = true := by rw [h]; rfl
    clear h
    by_cases hp0 : P.length = 0
    · have c5 : (0 < P.length) = False := eq_false (by omega)
      have c5b : ((P.length : Int) == 0) = true := by simp [hp0]
      clear hp0
      go_enter Tryd.func16, Tryd.ntmps16
      go_wp2_with (first
        | ((with_reducible refine gate_dst (N := 4) rfl ?_); (refine wpList_allocz rfl 36 Z36 rfl HZ36.out.1 ?_); rw [HWB.out, size_alloc, size_alloc, show w.heap.size + 1 + 1 = g + 2 by rw [HG.out], ← HG.out])
        | ((with_reducible refine gate_dst (N := 5) rfl ?_); (refine wpList_bs0 kS (wa := wb) rfl 34 27 rfl rfl 32 32 _ Tryd.underlying34 infoS (g + 3) (Below.refl _ _) (by rw [HB.out.2.2.2.2.1]; exact Nat.le_refl _) ?_); intro v0 w1 hr0 hb0 hs0; have hcp : kS.C w1 A P.length P := Kd.C_below HB.out.2.2.2.2.2 (show Below wb.heap.size wb w1 by rw [HB.out.2.2.2.2.1]; exact hb0); have hz1 : g + 3 ≤ w1.heap.size := (by have := HB.out.2.2.2.2.1; omega); have H1 := Aside0.mk (⟨hr0, hb0, hcp, hz1⟩ : _ ∧ _ ∧ _ ∧ _); have hcx1 := (hb0.block g (by omega)); have hcx1 := (World.cell?_of_block (a := ⟨g, 0, none⟩) hcx1).trans hcx; clear hr0 hb0 hs0 hcx hcp hz1)
        | ((with_reducible refine gate_dst (N := 8) rfl ?_); (refine app_Sall (wa := wb) rfl (.tmp 5) (.tmp 7) rfl v0 [] P A c rfl rfl (g + 3) H1.out.1 H1.out.2.2.1 H1.out.2.1 H1.out.2.2.2 HP1.out ?_); intro v1 w2 hr1 hb1; rw [List.nil_append] at hr1; (obtain ⟨A8, c8, e8⟩ := Kd.R_slice hr1); subst e8; have H2 : Aside0 (OdSt w g QQ (.slice A P.length c) ep lp (.slice A8 P.length c8) P w2) := Aside0.mk ⟨HB.out.2.2.2.1.trans (hb1.mono (by have := HG.out; omega)), (hb1.block _ (by omega)).trans (by rw [← HC.out]; exact HB.out.1), (hb1.block _ (by omega)).trans HB.out.2.1, (hb1.block _ (by omega)).trans (by rw [← HZ36.out.2]; exact HB.out.2.2.1), hr1, (by have := HG.out; have := hb1.size; have := HB.out.2.2.2.2.1; omega)⟩; clear hr1 hb1 hcx1)
        | ((with_reducible refine gate_store (t := 34) (p := 9) rfl ?_); refine wpList_store_run rfl rfl (ad := ⟨g, 0, none⟩) (v := .slice A8 P.length c8) rfl rfl _ (run_c (by kernel_rfl) rfl rfl 0 (by decide) H2.out.bp) ?_; obtain ⟨w3, hw3⟩ : ∃ W, w2.setCell ⟨g, 0, none⟩ (.slice A8 P.length c8) = W := ⟨_, rfl⟩; refine at_world hw3 ?_; have st := H2.out.cell 0 (.slice A8 P.length c8) (set_P0 H2.out.bp); rw [hw3] at st; have H3 := Aside0.mk st; have hy0 := (HCE.out w3 st.bq).1; have hy1 := (HCE.out w3 st.bq).2.1; have hyp := cell_P0 st.bp; clear hw3 st; have stF := H3.out; obtain ⟨CF, hCF⟩ : ∃ C, C = cP (.slice A8 P.length c8) ep lp := ⟨_, rfl⟩; have HF := Aside0.mk (⟨stF, hCF, fun W h => (R_C h).2.2, (by omega), hks⟩ : OdSt w g QQ (.slice A8 P.length c8) ep lp (.slice A8 P.length c8) P w3 ∧ CF = _ ∧ (∀ W : World, kS.R 27 W (g + 3) (fun _ => True) (.slice A8 P.length c8) P → kS.C W A8 (P).length (P)) ∧ (P).length ≤ 257 ∧ _); clear stF hCF)
        | ((with_reducible refine gate_dst (N := 92) rfl ?_); (refine wpList_loadv rfl 36 _ rfl _ rfl _ (ld_Pf HF.out.2.1 (by rw [HF.out.2.1]; exact HF.out.1.bp)) ?_))
        | ((with_reducible refine gate_store (t := 36) (p := 4) rfl ?_); (refine wpList_store_row rfl 36 (.tmp 4) (.tmp 92) rfl (g + 2) CF rfl rfl 36 (cP (.slice none 0 0) 0 zL) HF.out.1.br (by rw [HF.out.2.1, cP_size]; kernel_rfl) (by rw [HF.out.2.1, cP_size, cP_size]) (by rw [HF.out.2.1]; exact all_one (cP_one rfl _ _)) ?_)))
      refine bodyPost_ret (v := .agg CF) ?_ rfl ⟨⟨P, ep, lp⟩, A8, c8, CF, HF.out.2.1, rfl, HF.out.2.2.1 _ (R_setRow HF.out.1.row (by omega) CF), R_ty (R_setRow HF.out.1.row (by omega) CF), HF.out.2.2.2.1, HF.out.2.2.2.2, below_setRow HF.out.1.below (by have := HF.out.1.lt; omega)⟩
      exact results_cell_row rfl _ _ (g + 2) 36 _ (0, 0) _ rfl (setRow_heap _ _ _ _ _ _ HF.out.1.br) hu36 rfl (by rw [HF.out.2.1, cP_size]; kernel_rfl)
    · have c5 : (0 < P.length) = True := eq_true (by omega)
      have c5b : ((0 : Int) ≤ (P.length : Int) - 1) = True := eq_true (by omega)
      have c5c : ((P.length : Int) - 1 ≤ (P.length : Int)) = True := eq_true (by omega)
      have c5e : ((P.length : Int) < 1) = False := eq_false (by omega)
      have HP0 := Aside0.mk hp0
      clear hp0
      go_enter Tryd.func16, Tryd.ntmps16
      go_wp2_with (first
        | ((with_reducible refine gate_dst (N := 4) rfl ?_); (refine wpList_allocz rfl 36 Z36 rfl HZ36.out.1 ?_); rw [HWB.out, size_alloc, size_alloc, show w.heap.size + 1 + 1 = g + 2 by rw [HG.out], ← HG.out])
        | ((with_reducible refine gate_dst (N := 5) rfl ?_); (refine wpList_bs0 kS (wa := wb) rfl 34 27 rfl rfl 32 32 _ Tryd.underlying34 infoS (g + 3) (Below.refl _ _) (by rw [HB.out.2.2.2.2.1]; exact Nat.le_refl _) ?_); intro v0 w1 hr0 hb0 hs0; have hcp : kS.C w1 A P.length P := Kd.C_below HB.out.2.2.2.2.2 (show Below wb.heap.size wb w1 by rw [HB.out.2.2.2.2.1]; exact hb0); have hz1 : g + 3 ≤ w1.heap.size := (by have := HB.out.2.2.2.2.1; omega); have H1 := Aside0.mk (⟨hr0, hb0, hcp, hz1⟩ : _ ∧ _ ∧ _ ∧ _); have hcx1 := (hb0.block g (by omega)); have hcx1 := (World.cell?_of_block (a := ⟨g, 0, none⟩) hcx1).trans hcx; clear hr0 hb0 hs0 hcx hcp hz1)
        | ((with_reducible refine gate_dst (N := 8) rfl ?_); (refine app_Sall (wa := wb) rfl (.tmp 5) (.tmp 7) rfl v0 [] P A c rfl rfl (g + 3) H1.out.1 H1.out.2.2.1 H1.out.2.1 H1.out.2.2.2 HP1.out ?_); intro v1 w2 hr1 hb1; rw [List.nil_append] at hr1; (obtain ⟨A8, c8, e8⟩ := Kd.R_slice hr1); subst e8; have H2 : Aside0 (OdSt w g QQ (.slice A P.length c) ep lp (.slice A8 P.length c8) P w2) := Aside0.mk ⟨HB.out.2.2.2.1.trans (hb1.mono (by have := HG.out; omega)), (hb1.block _ (by omega)).trans (by rw [← HC.out]; exact HB.out.1), (hb1.block _ (by omega)).trans HB.out.2.1, (hb1.block _ (by omega)).trans (by rw [← HZ36.out.2]; exact HB.out.2.2.1), hr1, (by have := HG.out; have := hb1.size; have := HB.out.2.2.2.2.1; omega)⟩; clear hr1 hb1 hcx1)
        | ((with_reducible refine gate_store (t := 34) (p := 9) rfl ?_); refine wpList_store_run rfl rfl (ad := ⟨g, 0, none⟩) (v := .slice A8 P.length c8) rfl rfl _ (run_c (by kernel_rfl) rfl rfl 0 (by decide) H2.out.bp) ?_; obtain ⟨w3, hw3⟩ : ∃ W, w2.setCell ⟨g, 0, none⟩ (.slice A8 P.length c8) = W := ⟨_, rfl⟩; refine at_world hw3 ?_; have st := H2.out.cell 0 (.slice A8 P.length c8) (set_P0 H2.out.bp); rw [hw3] at st; have H3 := Aside0.mk st; have hy0 := (HCE.out w3 st.bq).1; have hy1 := (HCE.out w3 st.bq).2.1; have hyp := cell_P0 st.bp; clear hw3 st; have hc8 := (R_C H3.out.row).2.1; have c5d : ((P.length : Int) - 1 ≤ (c8 : Int)) = True := eq_true (by omega); clear hc8)
        | ((with_reducible refine gate_store (t := 34) (p := 91) rfl ?_); refine wpList_store_run rfl rfl (ad := ⟨g, 0, none⟩) (v := .slice A8 (P.length - 1) c8) rfl rfl _ (run_c (by kernel_rfl) rfl rfl 0 (by decide) H3.out.bp) ?_; obtain ⟨w4, hww⟩ : ∃ W, w3.setCell ⟨g, 0, none⟩ (.slice A8 (P.length - 1) c8) = W := ⟨_, rfl⟩; refine at_world hww ?_; have stF := H3.out.cell 0 (.slice A8 (P.length - 1) c8) (set_P0 H3.out.bp); rw [hww] at stF; clear hww; obtain ⟨P2, hP2⟩ : ∃ P2, P.take (P.length - 1) = P2 := ⟨_, rfl⟩; have hl2 : P2.length = P.length - 1 := (by rw [← hP2, List.length_take]; omega); rw [← hl2] at stF; obtain ⟨CF, hCF⟩ : ∃ C, C = cP (.slice A8 P2.length c8) ep lp := ⟨_, rfl⟩; have HF := Aside0.mk (⟨stF, hCF, (fun W h => by rw [← hP2]; exact Kd.C_take (R_C h).2.2 (by omega)), (by omega), hks⟩ : OdSt w g QQ (.slice A8 P2.length c8) ep lp (.slice A8 P.length c8) P w4 ∧ CF = _ ∧ (∀ W : World, kS.R 27 W (g + 3) (fun _ => True) (.slice A8 P.length c8) P → kS.C W A8 (P2).length (P2)) ∧ (P2).length ≤ 257 ∧ _); clear stF hCF; clear hP2 hl2)
        | ((with_reducible refine gate_dst (N := 92) rfl ?_); (refine wpList_loadv rfl 36 _ rfl _ rfl _ (ld_Pf HF.out.2.1 (by rw [HF.out.2.1]; exact HF.out.1.bp)) ?_))
        | ((with_reducible refine gate_store (t := 36) (p := 4) rfl ?_); (refine wpList_store_row rfl 36 (.tmp 4) (.tmp 92) rfl (g + 2) CF rfl rfl 36 (cP (.slice none 0 0) 0 zL) HF.out.1.br (by rw [HF.out.2.1, cP_size]; kernel_rfl) (by rw [HF.out.2.1, cP_size, cP_size]) (by rw [HF.out.2.1]; exact all_one (cP_one rfl _ _)) ?_)))
      case isFalse => exfalso; have := HP0.out; omega
      refine bodyPost_ret (v := .agg CF) ?_ rfl ⟨⟨P2, ep, lp⟩, A8, c8, CF, HF.out.2.1, rfl, HF.out.2.2.1 _ (R_setRow HF.out.1.row (by omega) CF), R_ty (R_setRow HF.out.1.row (by omega) CF), HF.out.2.2.2.1, HF.out.2.2.2.2, below_setRow HF.out.1.below (by have := HF.out.1.lt; omega)⟩
      exact results_cell_row rfl _ _ (g + 2) 36 _ (0, 0) _ rfl (setRow_heap _ _ _ _ _ _ HF.out.1.br) hu36 rfl (by rw [HF.out.2.1, cP_size]; kernel_rfl)
  · have hf0 : (q0 % 6 == 0) = false := by rw [h]; rfl
    have hf1 : (q0 % 6 == 1) = false := by rw [h]; rfl
    have hf2 : (q0 % 6 == 2) = false := by rw [h]; rfl
    have hf3 : (q0 % 6 == 3) = false := by rw [h]; rfl
    have hf4 : (q0 % 6 == 4) = false := by rw [h]; rfl
    clear h
    by_cases hp0 : P.length = 0
    · have c5 : (0 < P.length) = False := eq_false (by omega)
      have c5b : ((P.length : Int) == 0) = true := by simp [hp0]
      clear hp0
      go_enter Tryd.func16, Tryd.ntmps16
      go_wp2_with (first
        | ((with_reducible refine gate_dst (N := 4) rfl ?_); (refine wpList_allocz rfl 36 Z36 rfl HZ36.out.1 ?_); rw [HWB.out, size_alloc, size_alloc, show w.heap.size + 1 + 1 = g + 2 by rw [HG.out], ← HG.out])
        | ((with_reducible refine gate_dst (N := 5) rfl ?_); (refine wpList_bs0 kS (wa := wb) rfl 34 27 rfl rfl 32 32 _ Tryd.underlying34 infoS (g + 3) (Below.refl _ _) (by rw [HB.out.2.2.2.2.1]; exact Nat.le_refl _) ?_); intro v0 w1 hr0 hb0 hs0; have hcp : kS.C w1 A P.length P := Kd.C_below HB.out.2.2.2.2.2 (show Below wb.heap.size wb w1 by rw [HB.out.2.2.2.2.1]; exact hb0); have hz1 : g + 3 ≤ w1.heap.size := (by have := HB.out.2.2.2.2.1; omega); have H1 := Aside0.mk (⟨hr0, hb0, hcp, hz1⟩ : _ ∧ _ ∧ _ ∧ _); have hcx1 := (hb0.block g (by omega)); have hcx1 := (World.cell?_of_block (a := ⟨g, 0, none⟩) hcx1).trans hcx; clear hr0 hb0 hs0 hcx hcp hz1)
        | ((with_reducible refine gate_dst (N := 8) rfl ?_); (refine app_Sall (wa := wb) rfl (.tmp 5) (.tmp 7) rfl v0 [] P A c rfl rfl (g + 3) H1.out.1 H1.out.2.2.1 H1.out.2.1 H1.out.2.2.2 HP1.out ?_); intro v1 w2 hr1 hb1; rw [List.nil_append] at hr1; (obtain ⟨A8, c8, e8⟩ := Kd.R_slice hr1); subst e8; have H2 : Aside0 (OdSt w g QQ (.slice A P.length c) ep lp (.slice A8 P.length c8) P w2) := Aside0.mk ⟨HB.out.2.2.2.1.trans (hb1.mono (by have := HG.out; omega)), (hb1.block _ (by omega)).trans (by rw [← HC.out]; exact HB.out.1), (hb1.block _ (by omega)).trans HB.out.2.1, (hb1.block _ (by omega)).trans (by rw [← HZ36.out.2]; exact HB.out.2.2.1), hr1, (by have := HG.out; have := hb1.size; have := HB.out.2.2.2.2.1; omega)⟩; clear hr1 hb1 hcx1)
        | ((with_reducible refine gate_store (t := 34) (p := 9) rfl ?_); refine wpList_store_run rfl rfl (ad := ⟨g, 0, none⟩) (v := .slice A8 P.length c8) rfl rfl _ (run_c (by kernel_rfl) rfl rfl 0 (by decide) H2.out.bp) ?_; obtain ⟨w3, hw3⟩ : ∃ W, w2.setCell ⟨g, 0, none⟩ (.slice A8 P.length c8) = W := ⟨_, rfl⟩; refine at_world hw3 ?_; have st := H2.out.cell 0 (.slice A8 P.length c8) (set_P0 H2.out.bp); rw [hw3] at st; have H3 := Aside0.mk st; have hy0 := (HCE.out w3 st.bq).1; have hy1 := (HCE.out w3 st.bq).2.1; have hyp := cell_P0 st.bp; clear hw3 st; have stF := H3.out; obtain ⟨CF, hCF⟩ : ∃ C, C = cP (.slice A8 P.length c8) ep lp := ⟨_, rfl⟩; have HF := Aside0.mk (⟨stF, hCF, fun W h => (R_C h).2.2, (by omega), hks⟩ : OdSt w g QQ (.slice A8 P.length c8) ep lp (.slice A8 P.length c8) P w3 ∧ CF = _ ∧ (∀ W : World, kS.R 27 W (g + 3) (fun _ => True) (.slice A8 P.length c8) P → kS.C W A8 (P).length (P)) ∧ (P).length ≤ 257 ∧ _); clear stF hCF)
        | ((with_reducible refine gate_dst (N := 92) rfl ?_); (refine wpList_loadv rfl 36 _ rfl _ rfl _ (ld_Pf HF.out.2.1 (by rw [HF.out.2.1]; exact HF.out.1.bp)) ?_))
        | ((with_reducible refine gate_store (t := 36) (p := 4) rfl ?_); (refine wpList_store_row rfl 36 (.tmp 4) (.tmp 92) rfl (g + 2) CF rfl rfl 36 (cP (.slice none 0 0) 0 zL) HF.out.1.br (by rw [HF.out.2.1, cP_size]; kernel_rfl) (by rw [HF.out.2.1, cP_size, cP_size]) (by rw [HF.out.2.1]; exact all_one (cP_one rfl _ _)) ?_)))
      refine bodyPost_ret (v := .agg CF) ?_ rfl ⟨⟨P, ep, lp⟩, A8, c8, CF, HF.out.2.1, rfl, HF.out.2.2.1 _ (R_setRow HF.out.1.row (by omega) CF), R_ty (R_setRow HF.out.1.row (by omega) CF), HF.out.2.2.2.1, HF.out.2.2.2.2, below_setRow HF.out.1.below (by have := HF.out.1.lt; omega)⟩
      exact results_cell_row rfl _ _ (g + 2) 36 _ (0, 0) _ rfl (setRow_heap _ _ _ _ _ _ HF.out.1.br) hu36 rfl (by rw [HF.out.2.1, cP_size]; kernel_rfl)
    · obtain ⟨j, hj⟩ : ∃ j, (q1 % (P.length : Int)).toNat = j := ⟨_, rfl⟩
      have hj1 := Int.emod_nonneg q1 (show (P.length : Int) ≠ 0 by omega)
      have hj2 := Int.emod_lt_of_pos q1 (show (0 : Int) < (P.length : Int) by omega)
      have htj : q1.tmod (P.length : Int) = (j : Int) := by rw [Int.tmod_eq_emod_of_nonneg hq1.1]; omega
      have hjl : j < P.length := by omega
      obtain ⟨i, hi⟩ : ∃ i, (q2 % 32).toNat = i := ⟨_, rfl⟩
      have hi32 : i < 32 := by omega
      have hti : q2.tmod 32 = (i : Int) := by rw [Int.tmod_eq_emod_of_nonneg hq2.1]; omega
      have hw1 : IntKind.i64.wrap q1 = q1 := by rw [i64_w]; unfold wrap64; omega
      have HI := Aside0.mk (⟨hjl, htj, hi32, hti, hw1⟩ : _ ∧ _ ∧ _ ∧ _ ∧ _)
      have c5 : (0 < P.length) = True := eq_true (by omega)
      have c5z : (P.length = 0) = False := eq_false hp0
      have c5b : ((j : Int) < (P.length : Int)) = True := eq_true (by omega)
      have c5c : ((i : Int) < 32) = True := eq_true (by omega)
      have c5d : ((0 : Int) ≤ (i : Int)) = True := eq_true (by omega)
      have c5e : ((0 : Int) ≤ (j : Int)) = True := eq_true (by omega)
      clear hj hj1 hj2 htj hjl hi hi32 hti hp0 hw1
      go_enter Tryd.func16, Tryd.ntmps16
      go_wp2_with (first
        | ((with_reducible refine gate_dst (N := 4) rfl ?_); (refine wpList_allocz rfl 36 Z36 rfl HZ36.out.1 ?_); rw [HWB.out, size_alloc, size_alloc, show w.heap.size + 1 + 1 = g + 2 by rw [HG.out], ← HG.out])
        | ((with_reducible refine gate_dst (N := 5) rfl ?_); (refine wpList_bs0 kS (wa := wb) rfl 34 27 rfl rfl 32 32 _ Tryd.underlying34 infoS (g + 3) (Below.refl _ _) (by rw [HB.out.2.2.2.2.1]; exact Nat.le_refl _) ?_); intro v0 w1 hr0 hb0 hs0; have hcp : kS.C w1 A P.length P := Kd.C_below HB.out.2.2.2.2.2 (show Below wb.heap.size wb w1 by rw [HB.out.2.2.2.2.1]; exact hb0); have hz1 : g + 3 ≤ w1.heap.size := (by have := HB.out.2.2.2.2.1; omega); have H1 := Aside0.mk (⟨hr0, hb0, hcp, hz1⟩ : _ ∧ _ ∧ _ ∧ _); have hcx1 := (hb0.block g (by omega)); have hcx1 := (World.cell?_of_block (a := ⟨g, 0, none⟩) hcx1).trans hcx; clear hr0 hb0 hs0 hcx hcp hz1)
        | ((with_reducible refine gate_dst (N := 8) rfl ?_); (refine app_Sall (wa := wb) rfl (.tmp 5) (.tmp 7) rfl v0 [] P A c rfl rfl (g + 3) H1.out.1 H1.out.2.2.1 H1.out.2.1 H1.out.2.2.2 HP1.out ?_); intro v1 w2 hr1 hb1; rw [List.nil_append] at hr1; (obtain ⟨A8, c8, e8⟩ := Kd.R_slice hr1); subst e8; have H2 : Aside0 (OdSt w g QQ (.slice A P.length c) ep lp (.slice A8 P.length c8) P w2) := Aside0.mk ⟨HB.out.2.2.2.1.trans (hb1.mono (by have := HG.out; omega)), (hb1.block _ (by omega)).trans (by rw [← HC.out]; exact HB.out.1), (hb1.block _ (by omega)).trans HB.out.2.1, (hb1.block _ (by omega)).trans (by rw [← HZ36.out.2]; exact HB.out.2.2.1), hr1, (by have := HG.out; have := hb1.size; have := HB.out.2.2.2.2.1; omega)⟩; clear hr1 hb1 hcx1)
        | ((with_reducible refine gate_store (t := 34) (p := 9) rfl ?_); refine wpList_store_run rfl rfl (ad := ⟨g, 0, none⟩) (v := .slice A8 P.length c8) rfl rfl _ (run_c (by kernel_rfl) rfl rfl 0 (by decide) H2.out.bp) ?_; obtain ⟨w3, hw3⟩ : ∃ W, w2.setCell ⟨g, 0, none⟩ (.slice A8 P.length c8) = W := ⟨_, rfl⟩; refine at_world hw3 ?_; have st := H2.out.cell 0 (.slice A8 P.length c8) (set_P0 H2.out.bp); rw [hw3] at st; have H3 := Aside0.mk st; have hy0 := (HCE.out w3 st.bq).1; have hy1 := (HCE.out w3 st.bq).2.1; have hyp := cell_P0 st.bp; clear hw3 st; skip))
      obtain ⟨inner, ho⟩ := Kd.R_own H3.out.row
      rcases ho.2 with ⟨e1, h0⟩ | ⟨gP, cap, cur, e1, hgP, hcur, _⟩
      · exfalso; have := HI.out.1; omega
      obtain rfl : A8 = some ⟨gP, 0, none⟩ := by injection e1
      have HP := Aside0.mk (And.intro hgP hcur)
      obtain ⟨b0, hb0, hcell⟩ := byte_at (R_C H3.out.row).2.2 j HI.out.1 i HI.out.2.2.1
      have HCB := Aside0.mk (⟨hb0, fun W hb => (hb.cell (World.block_lt_of_cell? _ _ hcell)).trans hcell⟩ : (0 ≤ b0 ∧ b0 < 256) ∧ ∀ W, Below w3.heap.size w3 W → W.cell? ⟨gP, j * 32 + i, none⟩ = some (.int .u8 b0))
      clear ho e1 hgP hcur hb0 hcell
      refine start_ (n := 22) (S := fun w' => Below w3.heap.size w3 w') (ds := [21]) #[false, false, false, false, false, false, false, false, false, false, false, false, false, false, false, false, false, false, false, false, false, false] (by kernel_rfl) rfl rfl (Below.refl _ _).drew (fun hHeld => ?_)
      refine pure_ (i := 0) (N := some 17) (v := ?_) (a' := ?_) #[true, false, false, false, false, false, false, false, false, false, false, false, false, false, false, false, false, false, false, false, false, false] rfl rfl (by kernel_rfl) (fun _ _ _ h => h) (Or.inl ⟨by rfl, ?_⟩) ?_ ?_
      rotate_left
      · intro w'
        go_simp
        with_reducible rfl
      rotate_left
      · simp only [Act.put, List.setIfInBounds_toArray, List.set_cons_zero, List.set_cons_succ, i64_w, i32_w]
        rfl
      refine take_ (i := 1) (N := some 18) (v := ?_) (a' := ?_) #[true, true, false, false, false, false, false, false, false, false, false, false, false, false, false, false, false, false, false, false, false, false] rfl rfl (by kernel_rfl) (fun _ _ _ h => h) (Or.inl ⟨by rfl, ?_⟩) hHeld ?_ ?_
      rotate_left
      · intro w' hS
        have hx := cell_P0 (H3.out.next hS).bp
        go_simp
        with_reducible rfl
      rotate_left
      · simp only [Act.put, List.setIfInBounds_toArray, List.set_cons_zero, List.set_cons_succ, i64_w, i32_w]
        rfl
      refine pure_ (i := 2) (N := some 19) (v := ?_) (a' := ?_) #[true, true, true, false, false, false, false, false, false, false, false, false, false, false, false, false, false, false, false, false, false, false] rfl rfl (by kernel_rfl) (fun _ _ _ h => h) (Or.inl ⟨by rfl, ?_⟩) ?_ ?_
      rotate_left
      · intro w'
        go_simp
        with_reducible rfl
      rotate_left
      · simp only [Act.put, List.setIfInBounds_toArray, List.set_cons_zero, List.set_cons_succ, i64_w, i32_w]
        rfl
      refine take_ (i := 3) (N := some 20) (v := ?_) (a' := ?_) #[true, true, true, true, false, false, false, false, false, false, false, false, false, false, false, false, false, false, false, false, false, false] rfl rfl (by kernel_rfl) (fun _ _ _ h => h) (Or.inl ⟨by rfl, ?_⟩) hHeld ?_ ?_
      rotate_left
      · intro w' hS
        have hx := (HCE.out w' (H3.out.next hS).bq).2.1
        go_simp
        with_reducible rfl
      rotate_left
      · simp only [Act.put, List.setIfInBounds_toArray, List.set_cons_zero, List.set_cons_succ, i64_w, i32_w]
        rfl
      refine pure_ (i := 4) (N := some 21) (v := ?_) (a' := ?_) #[true, true, true, true, true, false, false, false, false, false, false, false, false, false, false, false, false, false, false, false, false, false] rfl rfl (by kernel_rfl) (fun _ _ _ h => h) (Or.inl ⟨by rfl, ?_⟩) ?_ ?_
      rotate_left
      · intro w'
        go_simp
        rw [HI.out.2.2.2.2]
        try with_reducible rfl
      rotate_left
      · simp only [Act.put, List.setIfInBounds_toArray, List.set_cons_zero, List.set_cons_succ, i64_w, i32_w]
        rfl
      refine pure_ (i := 5) (N := some 22) (v := ?_) (a' := ?_) #[true, true, true, true, true, true, false, false, false, false, false, false, false, false, false, false, false, false, false, false, false, false] rfl rfl (by kernel_rfl) (fun _ _ _ h => h) (Or.inl ⟨by rfl, ?_⟩) ?_ ?_
      rotate_left
      · intro w'
        go_simp
        with_reducible rfl
      rotate_left
      · simp only [Act.put, List.setIfInBounds_toArray, List.set_cons_zero, List.set_cons_succ, i64_w, i32_w]
        rfl
      refine take_ (i := 6) (N := some 23) (v := ?_) (a' := ?_) #[true, true, true, true, true, true, true, false, false, false, false, false, false, false, false, false, false, false, false, false, false, false] rfl rfl (by kernel_rfl) (fun _ _ _ h => h) (Or.inl ⟨by rfl, ?_⟩) hHeld ?_ ?_
      rotate_left
      · intro w' hS
        have hx := cell_P0 (H3.out.next hS).bp
        go_simp
        with_reducible rfl
      rotate_left
      · simp only [Act.put, List.setIfInBounds_toArray, List.set_cons_zero, List.set_cons_succ, i64_w, i32_w]
        rfl
      refine pure_ (i := 7) (N := some 24) (v := ?_) (a' := ?_) #[true, true, true, true, true, true, true, true, false, false, false, false, false, false, false, false, false, false, false, false, false, false] rfl rfl (by kernel_rfl) (fun _ _ _ h => h) (Or.inl ⟨by rfl, ?_⟩) ?_ ?_
      rotate_left
      · intro w'
        go_simp
        with_reducible rfl
      rotate_left
      · simp only [Act.put, List.setIfInBounds_toArray, List.set_cons_zero, List.set_cons_succ, i64_w, i32_w]
        rfl
      refine pure_ (i := 8) (N := some 25) (v := ?_) (a' := ?_) #[true, true, true, true, true, true, true, true, true, false, false, false, false, false, false, false, false, false, false, false, false, false] rfl rfl (by kernel_rfl) (fun _ _ _ h => h) (Or.inl ⟨by rfl, ?_⟩) ?_ ?_
      rotate_left
      · intro w'
        go_simp
        rw [HI.out.2.1]
        try with_reducible rfl
      rotate_left
      · simp only [Act.put, List.setIfInBounds_toArray, List.set_cons_zero, List.set_cons_succ, i64_w, i32_w]
        rfl
      refine pure_ (i := 9) (N := some 26) (v := ?_) (a' := ?_) #[true, true, true, true, true, true, true, true, true, true, false, false, false, false, false, false, false, false, false, false, false, false] rfl rfl (by kernel_rfl) (fun _ _ _ h => h) (Or.inl ⟨by rfl, ?_⟩) ?_ ?_
      rotate_left
      · intro w'
        go_simp
        with_reducible rfl
      rotate_left
      · simp only [Act.put, List.setIfInBounds_toArray, List.set_cons_zero, List.set_cons_succ, i64_w, i32_w]
        rfl
      refine take_ (i := 10) (N := some 27) (v := ?_) (a' := ?_) #[true, true, true, true, true, true, true, true, true, true, true, false, false, false, false, false, false, false, false, false, false, false] rfl rfl (by kernel_rfl) (fun _ _ _ h => h) (Or.inl ⟨by rfl, ?_⟩) hHeld ?_ ?_
      rotate_left
      · intro w' hS
        have hx := (HCE.out w' (H3.out.next hS).bq).2.2.1
        go_simp
        with_reducible rfl
      rotate_left
      · simp only [Act.put, List.setIfInBounds_toArray, List.set_cons_zero, List.set_cons_succ, i64_w, i32_w]
        rfl
      refine pure_ (i := 11) (N := some 28) (v := ?_) (a' := ?_) #[true, true, true, true, true, true, true, true, true, true, true, true, false, false, false, false, false, false, false, false, false, false] rfl rfl (by kernel_rfl) (fun _ _ _ h => h) (Or.inl ⟨by rfl, ?_⟩) ?_ ?_
      rotate_left
      · intro w'
        go_simp
        rw [HI.out.2.2.2.1]
        try with_reducible rfl
      rotate_left
      · simp only [Act.put, List.setIfInBounds_toArray, List.set_cons_zero, List.set_cons_succ, i64_w, i32_w]
        rfl
      refine pure_ (i := 12) (N := some 29) (v := ?_) (a' := ?_) #[true, true, true, true, true, true, true, true, true, true, true, true, true, false, false, false, false, false, false, false, false, false] rfl rfl (by kernel_rfl) (fun _ _ _ h => h) (Or.inl ⟨by rfl, ?_⟩) ?_ ?_
      rotate_left
      · intro w'
        go_simp
        with_reducible rfl
      rotate_left
      · simp only [Act.put, List.setIfInBounds_toArray, List.set_cons_zero, List.set_cons_succ, i64_w, i32_w]
        rfl
      refine pure_ (i := 13) (N := some 30) (v := ?_) (a' := ?_) #[true, true, true, true, true, true, true, true, true, true, true, true, true, true, false, false, false, false, false, false, false, false] rfl rfl (by kernel_rfl) (fun _ _ _ h => h) (Or.inl ⟨by rfl, ?_⟩) ?_ ?_
      rotate_left
      · intro w'
        go_simp
        with_reducible rfl
      rotate_left
      · simp only [Act.put, List.setIfInBounds_toArray, List.set_cons_zero, List.set_cons_succ, i64_w, i32_w]
        rfl
      refine pure_ (i := 15) (N := some 32) (v := ?_) (a' := ?_) #[true, true, true, true, true, true, true, true, true, true, true, true, true, true, false, true, false, false, false, false, false, false] rfl rfl (by kernel_rfl) (fun _ _ _ h => h) (Or.inl ⟨by rfl, ?_⟩) ?_ ?_
      rotate_left
      · intro w'
        go_simp
        with_reducible rfl
      rotate_left
      · simp only [Act.put, List.setIfInBounds_toArray, List.set_cons_zero, List.set_cons_succ, i64_w, i32_w]
        rfl
      refine take_ (i := 16) (N := some 33) (v := ?_) (a' := ?_) #[true, true, true, true, true, true, true, true, true, true, true, true, true, true, false, true, true, false, false, false, false, false] rfl rfl (by kernel_rfl) (fun _ _ _ h => h) (Or.inl ⟨by rfl, ?_⟩) hHeld ?_ ?_
      rotate_left
      · intro w' hS
        have hx := (HCE.out w' (H3.out.next hS).bq).2.2.2
        go_simp
        with_reducible rfl
      rotate_left
      · simp only [Act.put, List.setIfInBounds_toArray, List.set_cons_zero, List.set_cons_succ, i64_w, i32_w]
        rfl
      refine pure_ (i := 17) (N := some 34) (v := ?_) (a' := ?_) #[true, true, true, true, true, true, true, true, true, true, true, true, true, true, false, true, true, true, false, false, false, false] rfl rfl (by kernel_rfl) (fun _ _ _ h => h) (Or.inl ⟨by rfl, ?_⟩) ?_ ?_
      rotate_left
      · intro w'
        go_simp
        with_reducible rfl
      rotate_left
      · simp only [Act.put, List.setIfInBounds_toArray, List.set_cons_zero, List.set_cons_succ, i64_w, i32_w]
        rfl
      refine take_ (i := 14) (N := some 31) (v := ?_) (a' := ?_) #[true, true, true, true, true, true, true, true, true, true, true, true, true, true, true, true, true, true, false, false, false, false] rfl rfl (by kernel_rfl) (fun _ _ _ h => h) (Or.inl ⟨by rfl, ?_⟩) hHeld ?_ ?_
      rotate_left
      · intro w' hS
        have hx := HCB.out.2 w' hS
        go_simp
        with_reducible rfl
      rotate_left
      · simp only [Act.put, List.setIfInBounds_toArray, List.set_cons_zero, List.set_cons_succ, i64_w, i32_w]
        rfl
      refine pure_ (i := 18) (N := some 35) (v := ?_) (a' := ?_) #[true, true, true, true, true, true, true, true, true, true, true, true, true, true, true, true, true, true, true, false, false, false] rfl rfl (by kernel_rfl) (fun _ _ _ h => h) (Or.inl ⟨by rfl, ?_⟩) ?_ ?_
      rotate_left
      · intro w'
        go_simp
        with_reducible rfl
      rotate_left
      · simp only [Act.put, List.setIfInBounds_toArray, List.set_cons_zero, List.set_cons_succ, i64_w, i32_w]
        rfl
      refine pure_ (i := 19) (N := some 36) (v := ?_) (a' := ?_) #[true, true, true, true, true, true, true, true, true, true, true, true, true, true, true, true, true, true, true, true, false, false] rfl rfl (by kernel_rfl) (fun _ _ _ h => h) (Or.inl ⟨by rfl, ?_⟩) ?_ ?_
      rotate_left
      · intro w'
        go_simp
        with_reducible rfl
      rotate_left
      · simp only [Act.put, List.setIfInBounds_toArray, List.set_cons_zero, List.set_cons_succ, i64_w, i32_w]
        rfl
      refine pure_ (i := 20) (N := some 37) (v := ?_) (a' := ?_) #[true, true, true, true, true, true, true, true, true, true, true, true, true, true, true, true, true, true, true, true, true, false] rfl rfl (by kernel_rfl) (fun _ _ _ h => h) (Or.inl ⟨by rfl, ?_⟩) ?_ ?_
      rotate_left
      · intro w'
        go_simp
        with_reducible rfl
      rotate_left
      · simp only [Act.put, List.setIfInBounds_toArray, List.set_cons_zero, List.set_cons_succ, i64_w, i32_w]
        rfl
      refine last_ (i := 21) (N := none) #[true, true, true, true, true, true, true, true, true, true, true, true, true, true, true, true, true, true, true, true, true, true] rfl rfl (by kernel_rfl) (by decide) (fun K hK => ?_)
      refine st_any (by rfl) rfl rfl (ad := ⟨gP, j * 32 + i, none⟩) (v := .int .u8 (bits .xor .u8 b0 (max q3 1))) rfl rfl (run_storeVar_cell rfl rfl rfl (by kernel_rfl) (HCB.out.2 _ hHeld) (frozen_of_row _ gP _ _ _ (at_next HP.out.2 hHeld))) ?_
      refine hK.out _ _ ?_
      clear hK K
      refine done_ (by kernel_rfl) ?_
      obtain ⟨w4, hww⟩ : ∃ W, (w3.drew).setCell ⟨gP, j * 32 + i, none⟩ (.int .u8 (bits .xor .u8 b0 (max q3 1))) = W := ⟨_, rfl⟩
      have hst := H3.out.next hHeld
      obtain ⟨P2, hl2, hr2⟩ := set_S (R_C hst.row).2.2 (at_next HP.out.2 hHeld) j HI.out.1 i HI.out.2.2.1 (bits .xor .u8 b0 (max q3 1)) (xor_ok HCB.out.1 (by omega)) (W := w4) (by rw [hww])
      have hgP := HP.out.1
      have hbp : w4.heap[g]? = some (.cells (cP (.slice (some ⟨gP, 0, none⟩) P2.length c8) ep lp) 36 (0, 0)) := by rw [← hww, hl2]; exact (heap_setCell_ne (by omega)).trans hst.bp
      have hbr : w4.heap[g + 2]? = some (.cells (cP (.slice none 0 0) 0 zL) 36 (0, 0)) := by rw [← hww]; exact (heap_setCell_ne (by omega)).trans hst.br
      have hbw : Below w.heap.size w w4 := by rw [← hww]; exact hst.below.setCell (p := ⟨gP, j * 32 + i, none⟩) (by have := hst.lt; show w.heap.size ≤ gP; omega) _
      obtain ⟨CF, hCF⟩ : ∃ C, C = cP (.slice (some ⟨gP, 0, none⟩) P2.length c8) ep lp := ⟨_, rfl⟩
      have HF := Aside0.mk (⟨⟨hbw, hbp, hbr, hst.lt.1⟩, hCF, hr2, by omega, hgP, by rw [← hww]; exact heap_setCell_same _ _ _ _ _ _ (at_next HP.out.2 hHeld)⟩ : OdE w g (.slice (some ⟨gP, 0, none⟩) P2.length c8) ep lp w4 ∧ CF = _ ∧ kS.C w4 (some ⟨gP, 0, none⟩) P2.length P2 ∧ P2.length ≤ 257 ∧ g + 3 ≤ gP ∧ w4.heap[gP]? = some (.cells _ 27 (0, 0)))
      rw [hww]
      clear hww hst hl2 hr2 hgP hbp hbr hbw hCF hHeld
      go_wp2_with (first
        | ((with_reducible refine gate_dst (N := 92) rfl ?_); (refine wpList_loadv rfl 36 _ rfl _ rfl _ (ld_Pf HF.out.2.1 (by rw [HF.out.2.1]; exact HF.out.1.bp)) ?_))
        | ((with_reducible refine gate_store (t := 36) (p := 4) rfl ?_); (refine wpList_store_row rfl 36 (.tmp 4) (.tmp 92) rfl (g + 2) CF rfl rfl 36 (cP (.slice none 0 0) 0 zL) HF.out.1.br (by rw [HF.out.2.1, cP_size]; kernel_rfl) (by rw [HF.out.2.1, cP_size, cP_size]) (by rw [HF.out.2.1]; exact all_one (cP_one rfl _ _)) ?_)))
      refine bodyPost_ret (v := .agg CF) ?_ rfl ⟨⟨P2, ep, lp⟩, some ⟨gP, 0, none⟩, c8, CF, HF.out.2.1, rfl, C_keepS HF.out.2.2.1 (setRow_other _ _ _ _ (by have := HF.out.2.2.2.2.1; show gP ≠ g + 2; omega)), (fun ad e => by obtain rfl := Option.some.inj e; exact ⟨_, _, (setRow_other _ _ _ _ (by have := HF.out.2.2.2.2.1; show gP ≠ g + 2; omega)).trans HF.out.2.2.2.2.2⟩), HF.out.2.2.2.1, hks, below_setRow HF.out.1.below (by have := HF.out.1.lt; omega)⟩
      exact results_cell_row rfl _ _ (g + 2) 36 _ (0, 0) _ rfl (setRow_heap _ _ _ _ _ _ HF.out.1.br) hu36 rfl (by rw [HF.out.2.1, cP_size]; kernel_rfl)
end Go.Proofs.YtanabbjakacgbaaDoor.Sp
namespace Go.Proofs.YtanabbjakacgbaaDoor.Sp
open Go.RowKit Go.Proofs.YtanabbjakacgbaaDoorW.PrintWords Go.Proofs.YtanabbjakacgbaaDoorW.PrintLast Go.Proofs.YtanabbjakacgbaaDoorW.PrintMore Go.Proofs.YtanabbjakacgbaaDoor.PM
set_option linter.unusedVariables false
set_option linter.unusedSimpArgs false
def chL (s : Sm) : List Sm → Nat → Sm → List Hd
  | [], _, _ => []
  | o :: p, d, now => chL s p (d + 1) now ++ [if bitI s d = 1 then nodeD o (upL s p (d + 1) now) else nodeD (upL s p (d + 1) now) o]
def baseS (e : Int) (l : Lf) : Sm := if e = 0 then zS else leafH l
def baseL (e : Int) (l : Lf) : List Hd := if e = 0 then [] else [leafD l]
def chainOf (k : ByteArray) (p : List Sm) (e : Int) (l : Lf) : List Hd := baseL e l ++ chL (hk k) p 0 (baseS e l)
def zeroB (l : List Hd) : Bool := l.any fun x => decide (sumD x = zS)
def meetB (x y : Hd) : Bool := (decide (sumD x = sumD y) && !decide (x = y)) || decide (sumD x = zS) || decide (sumD y = zS)
def metB (a b : List Hd) : Bool := (a.any fun x => b.any fun y => meetB x y) || ((decide (a.length = 0) || decide (b.length = 0)) && (zeroB a || zeroB b))
theorem leafD_inj {x y : Lf} (h : leafD x = leafD y) : x = y := by
  injection h with _ h
  injection h with h1 h2
  injection h2 with h2 _
  obtain ⟨k, v⟩ := x
  obtain ⟨k2, v2⟩ := y
  have e1 : k = k2 := by
    apply ByteArray.ext
    apply Array.ext'
    have h3 : ∀ (a b : List UInt8), a.map (fun b => (b.toNat : Int)) = b.map (fun b => (b.toNat : Int)) → a = b := by
      intro a
      induction a with
      | nil => intro b h; cases b with
        | nil => rfl
        | cons _ _ => simp at h
      | cons x a ih => intro b h; cases b with
        | nil => simp at h
        | cons y b =>
          simp only [List.map_cons] at h
          injection h with h1 h2
          have h4 : x = y := by
            apply UInt8.toNat.inj
            omega
          rw [h4, ih b h2]
    exact h3 _ _ h1
  have e2 : v = v2 := by cases v; cases v2; congr
  rw [e1, e2]
theorem nodeD_inj {a b c d : Sm} (h : nodeD a b = nodeD c d) : a = c ∧ b = d := by
  injection h with _ h
  injection h with h1 h2
  injection h2 with h2 _
  exact ⟨by cases a; cases c; congr, by cases b; cases d; congr⟩
theorem up_node (s o : Sm) (p : List Sm) (d : Nat) (now : Sm) : upL s (o :: p) d now = sumD (if bitI s d = 1 then nodeD o (upL s p (d + 1) now) else nodeD (upL s p (d + 1) now) o) := by
  rw [upL]
  rcases bitI_01 s d with e | e
  · rw [e, if_pos rfl, if_neg (by decide), sumD_node]
  · rw [e, if_neg (by decide), if_pos rfl, sumD_node]
theorem down (s : Sm) (a b : List Hd) (hN : ∀ x ∈ a, ∀ y ∈ b, sumD x = sumD y → x = y) : ∀ (p q : List Sm) (d : Nat) (n m : Sm), (∀ x ∈ chL s p d n, x ∈ a) → (∀ x ∈ chL s q d m, x ∈ b) → upL s p d n = upL s q d m →
    n = m ∨ (∃ y ∈ b, y.t = 78 ∧ n = sumD y) ∨ (∃ x ∈ a, x.t = 78 ∧ m = sumD x)
  | [], [], d, n, m, _, _, h => Or.inl h
  | [], o :: q, d, n, m, _, hb, h => by
    rw [up_node] at h
    refine Or.inr (Or.inl ⟨_, hb _ (by rw [chL]; exact List.mem_append_right _ List.mem_cons_self), ?_, h⟩)
    split <;> rfl
  | o :: p, [], d, n, m, ha, _, h => by
    rw [up_node] at h
    refine Or.inr (Or.inr ⟨_, ha _ (by rw [chL]; exact List.mem_append_right _ List.mem_cons_self), ?_, h.symm⟩)
    split <;> rfl
  | o :: p, o2 :: q, d, n, m, ha, hb, h => by
    rw [up_node, up_node] at h
    have hh := hN _ (ha _ (by rw [chL]; exact List.mem_append_right _ List.mem_cons_self)) _ (hb _ (by rw [chL]; exact List.mem_append_right _ List.mem_cons_self)) h
    have hu : upL s p (d + 1) n = upL s q (d + 1) m := by
      by_cases e : bitI s d = 1
      · rw [if_pos e, if_pos e] at hh; exact (nodeD_inj hh).2
      · rw [if_neg e, if_neg e] at hh; exact (nodeD_inj hh).1
    exact down s a b hN p q (d + 1) n m (fun x hx => ha x (by rw [chL]; exact List.mem_append_left _ hx)) (fun x hx => hb x (by rw [chL]; exact List.mem_append_left _ hx)) hu
theorem ck_ok {root : Sm} {k : ByteArray} {p : List Sm} {e : Int} {l : Lf} (h : (ckOf root k p e l).o = true) : rightB k p.length e l = true ∧ upL (hk k) p 0 (baseS e l) = root ∧ ckOf root k p e l = if e = 1 then ⟨l.v, true, true⟩ else ⟨zS, false, true⟩ := by
  unfold ckOf checkB at h ⊢
  by_cases h1 : rightB k p.length e l = false
  · rw [if_pos h1] at h; cases h
  · rw [if_neg h1] at h ⊢
    by_cases h2 : topOf k p e l = root
    · rw [if_neg (by simpa using h2)]
      refine ⟨by simpa using h1, h2, ?_⟩
      by_cases h3 : e = 1
      · rw [if_pos h3, if_pos h3]
      · rw [if_neg h3, if_neg h3]
    · rw [if_pos h2] at h; cases h
theorem right_e {k : ByteArray} {n : Nat} {e : Int} {l : Lf} (h : rightB k n e l = true) (h0 : ¬ e = 0) : e = 1 ↔ l.k = k := by
  rw [rightB, if_neg h0] at h
  by_cases h1 : e = 1
  · rw [if_pos h1] at h
    simp at h
    exact ⟨fun _ => h.2, fun _ => h1⟩
  · rw [if_neg h1] at h
    simp at h
    exact ⟨fun e => absurd e h1, fun e => absurd e h.2.2⟩
theorem binds_met (root : Sm) (k : ByteArray) (p q : List Sm) (e f : Int) (l m : Lf) (h1 : (ckOf root k p e l).o = true) (h2 : (ckOf root k q f m).o = true)
    (hne : (ckOf root k q f m).i ≠ (ckOf root k p e l).i ∨ (ckOf root k q f m).s ≠ (ckOf root k p e l).s) : metB (chainOf k p e l) (chainOf k q f m) = true := by
  obtain ⟨r1, u1, c1⟩ := ck_ok h1
  obtain ⟨r2, u2, c2⟩ := ck_ok h2
  by_cases hm : metB (chainOf k p e l) (chainOf k q f m) = true
  · exact hm
  · exfalso
    obtain ⟨a, ha⟩ : ∃ a, chainOf k p e l = a := ⟨_, rfl⟩
    obtain ⟨b, hb⟩ : ∃ b, chainOf k q f m = b := ⟨_, rfl⟩
    rw [ha, hb] at hm
    have hm : metB a b = false := by simpa using hm
    rw [metB, Bool.or_eq_false_iff] at hm
    have hx : ∀ x ∈ a, ∀ y ∈ b, meetB x y = false := by
      intro x hx y hy
      have := List.any_eq_false.1 hm.1 x hx
      have := List.any_eq_false.1 (by simpa using this) y hy
      simpa using this
    have hN : ∀ x ∈ a, ∀ y ∈ b, sumD x = sumD y → x = y := by
      intro x hx' y hy h
      have := hx x hx' y hy
      simp [meetB, h] at this
      exact this.1
    have hZ : (∀ x ∈ a, sumD x ≠ zS) ∧ ∀ y ∈ b, sumD y ≠ zS := by
      by_cases he : a.length = 0 ∨ b.length = 0
      · have h0 : (decide (a.length = 0) || decide (b.length = 0)) = true := by simpa using he
        have := hm.2
        rw [h0, Bool.true_and, Bool.or_eq_false_iff] at this
        refine ⟨fun x hx h => ?_, fun x hx h => ?_⟩
        · have := List.any_eq_false.1 this.1 x hx; simp [h] at this
        · have := List.any_eq_false.1 this.2 x hx; simp [h] at this
      · obtain ⟨x0, hx0⟩ := List.exists_mem_of_length_pos (l := a) (by omega)
        obtain ⟨y0, hy0⟩ := List.exists_mem_of_length_pos (l := b) (by omega)
        refine ⟨fun x hx' h => ?_, fun y hy h => ?_⟩
        · have := hx x hx' y0 hy0; simp [meetB, h] at this
        · have := hx x0 hx0 y hy; simp [meetB, h] at this
    have hla : ¬ e = 0 → leafD l ∈ a := fun h0 => by rw [← ha, chainOf, baseL, if_neg h0]; exact List.mem_cons_self
    have hlb : ¬ f = 0 → leafD m ∈ b := fun h0 => by rw [← hb, chainOf, baseL, if_neg h0]; exact List.mem_cons_self
    have hd := down (hk k) a b hN p q 0 (baseS e l) (baseS f m) (fun x hx => by rw [← ha, chainOf]; exact List.mem_append_right _ hx) (fun x hx => by rw [← hb, chainOf]; exact List.mem_append_right _ hx) (u1.trans u2.symm)
    have sz : ∀ {e : Int} {l : Lf}, e = 0 → baseS e l = zS := fun h => by rw [baseS, if_pos h]
    have sl : ∀ {e : Int} {l : Lf}, ¬ e = 0 → baseS e l = sumD (leafD l) := fun h => by rw [baseS, if_neg h]; rfl
    rcases hd with hd | ⟨y, hy, ht, hs⟩ | ⟨x, hx', ht, hs⟩
    · by_cases e0 : e = 0
      · by_cases f0 : f = 0
        · rw [c1, c2, if_neg (by omega), if_neg (by omega)] at hne
          rcases hne with h | h <;> exact h rfl
        · rw [sz e0, sl f0] at hd
          exact hZ.2 _ (hlb f0) hd.symm
      · by_cases f0 : f = 0
        · rw [sz f0, sl e0] at hd
          exact hZ.1 _ (hla e0) hd
        · rw [sl e0, sl f0] at hd
          have hl := leafD_inj (hN _ (hla e0) _ (hlb f0) hd)
          have i1 := right_e r1 e0
          have i2 := right_e r2 f0
          rw [hl] at i1
          rw [c1, c2, hl] at hne
          by_cases e1 : e = 1
          · rw [if_pos e1, if_pos (i2.2 (i1.1 e1))] at hne
            rcases hne with h | h <;> exact h rfl
          · rw [if_neg e1, if_neg (fun h => e1 (i1.2 (i2.1 h)))] at hne
            rcases hne with h | h <;> exact h rfl
    · by_cases e0 : e = 0
      · rw [sz e0] at hs; exact hZ.2 _ hy hs.symm
      · rw [sl e0] at hs
        have := hN _ (hla e0) _ hy hs
        rw [← this] at ht
        revert ht; show ¬ (76 : Int) = 78; decide
    · by_cases f0 : f = 0
      · rw [sz f0] at hs; exact hZ.1 _ hx' hs.symm
      · rw [sl f0] at hs
        have := hN _ hx' _ (hlb f0) hs.symm
        rw [this] at ht
        revert ht; show ¬ (76 : Int) = 78; decide
end Go.Proofs.YtanabbjakacgbaaDoor.Sp
namespace Go.Proofs.YtanabbjakacgbaaDoor.Sp
open Go.RowKit Go.Proofs.YtanabbjakacgbaaDoorW.PrintWords Go.Proofs.YtanabbjakacgbaaDoorW.PrintLast Go.Proofs.YtanabbjakacgbaaDoorW.PrintMore Go.Proofs.YtanabbjakacgbaaDoor.PM
set_option linter.unusedVariables false
set_option linter.unusedSimpArgs false
set_option maxRecDepth 100000
structure Hx where
  A : Option Addr
  c : Nat
  h : Hd
def cH (x : Hx) : Array Value := #[.int .u8 x.h.t, .slice x.A x.h.ps.length x.c]
def zX : Hx := ⟨none, 0, ⟨0, []⟩⟩
def kH : Kd Hx := flat 2 cH (fun _ => rfl) (fun _ => two_one)
theorem infoX : (Tryd.prog.info? 91).map (fun i => (i.zero, i.size, i.bytes)) = some (some (.agg (cH zX)), 2, 32) := by kernel_rfl
def Kp (b : Nat) (w w1 : World) : Prop := ∀ (k : Nat) (o : Obj), b ≤ k → w.heap[k]? = some o → (∀ cells fr, o ≠ Obj.cells cells 91 fr) → w1.heap[k]? = some o
theorem Kp.trans {b : Nat} {w w1 w2 : World} (h : Kp b w w1) (h2 : Kp b w1 w2) : Kp b w w2 := fun k o hk ho hn => h2 k o hk (h k o hk ho hn) hn
theorem Kp.below {b : Nat} {w w1 : World} (h : Below w.heap.size w w1) : Kp b w w1 := fun k o _ ho _ => (h.block k (Array.getElem?_eq_some_iff.1 ho).1).trans ho
theorem Kp.grown {b : Nat} {w w1 : World} {α : Type} {d : Kd α} {base : Nat} {v : Value} {xs : List α} {ok : Nat → Prop} (hu : d.R 91 w base ok v xs) (hg : w.grownBy w1 v.ownBlock) : Kp b w w1 := fun k o _ ho hn =>
  (hg.block k (Array.getElem?_eq_some_iff.1 ho).1 (fun e1 => by
    obtain ⟨inner, hi⟩ := Kd.R_own hu
    obtain ⟨cells, hc⟩ := own_typed hi k e1.symm
    rw [hc] at ho
    exact hn _ _ (Option.some.inj ho).symm)).trans ho
theorem Kp.row {b g : Nat} {w : World} {cs cells : Array Value} {fr : Nat × Nat} (hg : w.heap[g]? = some (.cells cells 91 fr)) : Kp b w (w.setRow g cs) := fun k o _ ho hn => by
  rw [setRow_other _ _ _ _ (fun e => by rw [e, hg] at ho; exact hn _ _ (Option.some.inj ho).symm)]; exact ho
theorem Kp.low {b g : Nat} {w : World} {cs : Array Value} (hg : g < b) : Kp b w (w.setRow g cs) := fun k o hk ho hn => by
  rw [setRow_other _ _ _ _ (by omega)]; exact ho
def Rub (b : Nat) (w : World) (A : Option Addr) (c : Nat) (ps : List (List Int)) : Prop := ps.length ≤ c ∧ ∀ W : World, Kp b w W → Kd.C (Kd.slice 5 (Kd.int .u8)) W A ps.length ps
theorem Rub.rob {b : Nat} {w : World} {A : Option Addr} {c : Nat} {ps : List (List Int)} (h : Rub b w A c ps) : Rob w A c ps := ⟨h.1, fun W hW => h.2 W (fun k o _ ho hn => hW k o ho hn)⟩
theorem Rub.keep {b : Nat} {w w1 : World} {A : Option Addr} {c : Nat} {ps : List (List Int)} (h : Rub b w A c ps) (hk : Kp b w w1) : Rub b w1 A c ps := ⟨h.1, fun W hW => h.2 W (hk.trans hW)⟩
theorem Rub.lower {b b' : Nat} {w : World} {A : Option Addr} {c : Nat} {ps : List (List Int)} (h : Rub b w A c ps) (hb : b' ≤ b) : Rub b' w A c ps := ⟨h.1, fun W hW => h.2 W (fun k o hk ho hn => hW k o (by omega) ho hn)⟩
def Gd (b : Nat) (w : World) (x : Hx) : Prop := (0 ≤ x.h.t ∧ x.h.t < 256) ∧ Fit x.h.ps ∧ Rub b w x.A x.c x.h.ps
theorem Gd.keep {b : Nat} {w w1 : World} {x : Hx} (h : Gd b w x) (hk : Kp b w w1) : Gd b w1 x := ⟨h.1, h.2.1, h.2.2.keep hk⟩
def Hrow (B b : Nat) (w : World) (v : Value) (hs : List Hd) : Prop := ∃ L : List Hx, kH.R 91 w B (fun _ => True) v L ∧ L.map (·.h) = hs ∧ ∀ x ∈ L, Gd b w x
def Hrd (w : World) (A : Option Addr) (c : Nat) (hs : List Hd) : Prop := hs.length ≤ c ∧ ∃ L : List Hx, kH.C w A hs.length L ∧ L.map (·.h) = hs ∧ ∀ x ∈ L, (0 ≤ x.h.t ∧ x.h.t < 256) ∧ Fit x.h.ps ∧ Rob w x.A x.c x.h.ps
theorem Hrd.below {w w1 : World} {A : Option Addr} {c : Nat} {hs : List Hd} (h : Hrd w A c hs) (hb : Below w.heap.size w w1) : Hrd w1 A c hs := by
  obtain ⟨h1, L, h2, h3, h4⟩ := h
  exact ⟨h1, L, Kd.C_below h2 hb, h3, fun x hx => ⟨(h4 x hx).1, (h4 x hx).2.1, (h4 x hx).2.2.below hb⟩⟩
theorem Hrow.rd {B b : Nat} {w : World} {v : Value} {hs : List Hd} (h : Hrow B b w v hs) : ∃ A c, v = .slice A hs.length c ∧ Hrd w A c hs := by
  obtain ⟨L, h1, h2, h3⟩ := h
  obtain ⟨A, c, rfl, h4, h5⟩ := Kd.R_reads h1
  have hl : L.length = hs.length := by rw [← h2, List.length_map]
  rw [hl] at h4 h5 ⊢
  exact ⟨A, c, rfl, h4, L, h5, h2, fun x hx => ⟨(h3 x hx).1, (h3 x hx).2.1, (h3 x hx).2.2.rob⟩⟩
theorem Hrow.below {B b : Nat} {w w1 : World} {v : Value} {hs : List Hd} (h : Hrow B b w v hs) (hb : Below w.heap.size w w1) : Hrow B b w1 v hs := by
  obtain ⟨L, h1, h2, h3⟩ := h
  exact ⟨L, Kd.R_below h1 hb, h2, fun x hx => (h3 x hx).keep (Kp.below hb)⟩
theorem Hrow.low {B b g : Nat} {w : World} {v : Value} {hs : List Hd} (h : Hrow B b w v hs) (h1 : g < B) (h2 : g < b) (cs : Array Value) : Hrow B b (w.setRow g cs) v hs := by
  obtain ⟨L, h3, h4, h5⟩ := h
  exact ⟨L, R_setRow h3 h1 cs, h4, fun x hx => (h5 x hx).keep (Kp.low h2)⟩
theorem Hrd.at {w : World} {A : Option Addr} {c : Nat} {hs : List Hd} (h : Hrd w A c hs) (i : Nat) (hi : i < hs.length) : ∃ ad x, A = some ad ∧ hs.getD i ⟨0, []⟩ = x.h ∧ (∀ j u, (cH x).toList[j]? = some u → w.cell? ((ad.add (i * 2)).add j) = some u) ∧ (0 ≤ x.h.t ∧ x.h.t < 256) ∧ Fit x.h.ps ∧ Rob w x.A x.c x.h.ps := by
  obtain ⟨_, L, h2, h3, h4⟩ := h
  obtain ⟨ad, e, hc⟩ := at_flat h2 zX (i : Int) (by omega) (by omega)
  rw [Int.toNat_natCast] at hc
  have hl : L.length = hs.length := by rw [← h3, List.length_map]
  refine ⟨ad, L.getD i zX, e, ?_, hc, ?_⟩
  · rw [← h3, List.getD_eq_getElem?_getD, List.getD_eq_getElem?_getD, List.getElem?_map, List.getElem?_eq_getElem (by omega)]; rfl
  · refine h4 _ ?_
    rw [List.getD_eq_getElem?_getD, List.getElem?_eq_getElem (by omega)]
    exact List.getElem_mem _
section
variable {ops : Array Oper} {rest : List Oper} {o : Oper} {a : Act} {Q : Exit → Act → World → Prop} {w wa W : World}
theorem bs0_H (hg : o.guard = none) (ho : o.op = .buildSlice 44 0 #[]) {N : Tmp} (hN : o.dst = some N) (B b : Nat) (HB : Below B wa W) (hB : B ≤ W.heap.size) (h : ∀ v1 w1, Hrow B b w1 v1 [] → Below B wa w1 → W.heap.size ≤ w1.heap.size → wpList Tryd.prog ops Q rest (a.put o.dst v1) w1) : wpList Tryd.prog ops Q (o :: rest) a W :=
  wpList_bs0 kH hg 44 91 ho hN 2 32 _ Tryd.underlying44 infoX B HB hB (fun v1 w1 h1 h2 h3 => h v1 w1 ⟨[], h1, rfl, fun _ hx => by cases hx⟩ h2 h3)
theorem bs1_H (hg : o.guard = none) (x : Operand) (ho : o.op = .buildSlice 44 1 #[(0, x)]) (p : Hx) (hx : a.eval x = .agg (cH p)) (h : wpList Tryd.prog ops Q rest (a.put o.dst (.slice (some ⟨w.heap.size, 0, none⟩) 1 1)) (w.alloc (.cells (cH p) 91))) : wpList Tryd.prog ops Q (o :: rest) a w :=
  wpList_bs1 hg 44 91 x ho _ hx 2 32 _ Tryd.underlying44 infoX rfl (by decide) (by decide) h
theorem app_H (hg : o.guard = none) (s x : Operand) (ho : o.op = .call { callee := .builtin .append, args := #[s, x], argTypes := #[44, 44] }) (v : Value) (hs : List Hd) (p : Hx) (hs' : a.eval s = v) (hx : a.eval x = .slice (some ⟨W.heap.size, 0, none⟩) 1 1) (B b : Nat) (HO : Hrow B b W v hs) (hp : Gd b W p) (HB : Below B wa W) (hB : B ≤ W.heap.size) (hl : hs.length ≤ 1000000)
    (h : ∀ v1 w1, Hrow B b w1 v1 (hs ++ [p.h]) → Below B wa w1 → Kp 0 W w1 → W.heap.size ≤ w1.heap.size → (∀ k, k < W.heap.size → (some k ≠ v.ownBlock) → w1.heap[k]? = W.heap[k]?) → wpList Tryd.prog ops Q rest (a.put o.dst v1) w1) : wpList Tryd.prog ops Q (o :: rest) a (W.alloc (.cells (cH p) 91)) := by
  obtain ⟨L, h1, h2, h3⟩ := HO
  have hll : L.length = hs.length := by rw [← h2, List.length_map]
  have h9 := Kd.R_append kH (P := Tryd.prog) (w0 := wa) (W := W) (ops := ops) (rest := rest) (o := o) (a := a) (Q := Q) B hg s x 44 91 (.agg (cH zX)) 32 ho Tryd.underlying44 infoX rfl (by decide) (by decide) v L p (cH p).toList (fun _ => True) (fun _ => False) hs' hx rfl (fun _ hk => hk.elim) (fun _ _ => trivial) h1 HB hB (by omega) (fun v1 w1 k1 k2 k3 _ => h v1 w1 ⟨L ++ [p], k1, by rw [List.map_append, h2]; rfl, fun y hy => by
    rcases List.mem_append.1 hy with hy | hy
    · exact (h3 y hy).keep (Kp.grown h1 k3)
    · obtain rfl := List.mem_singleton.1 hy; exact hp.keep (Kp.grown h1 k3)⟩ k2 (Kp.grown h1 k3) k3.size (fun k hk hne => k3.block k hk (fun e => hne e)))
  rwa [Array.toArray_toList] at h9
end
set_option maxHeartbeats 4000000 in
theorem node4b_calls (p q : Sm) (w : World) :
    Calls Tryd.prog 52 #[.agg (cS p), .agg (cS q)] w fun e w' => ∃ A c, e = .returned (.agg #[.int .u8 78, .slice A 2 c]) ∧ Rub w.heap.size w' A c [p.b, q.b] ∧ Below w.heap.size w w' := by
  have hu91 := Tryd.underlying91
  obtain ⟨g, hg⟩ : ∃ g, g = w.heap.size := ⟨_, rfl⟩
  obtain ⟨wb, hwb⟩ : ∃ wb, wb = ((w.alloc (.cells (cS p) 27)).alloc (.cells (cS q) 27)).alloc (.cells #[.int .u8 0, .slice none 0 0] 91) := ⟨_, rfl⟩
  have h0 : wb.heap[g]? = some (.cells (cS p) 27 (0, 0)) := by rw [hwb, h_old (by simp only [size_alloc]; omega), h_old (by simp only [size_alloc]; omega)]; exact h_new hg
  have h1 : wb.heap[g + 1]? = some (.cells (cS q) 27 (0, 0)) := by rw [hwb, h_old (by simp only [size_alloc]; omega)]; exact h_new (by rw [size_alloc, hg])
  have h2 : wb.heap[g + 2]? = some (.cells #[.int .u8 0, .slice none 0 0] 91 (0, 0)) := by rw [hwb]; exact h_new (by rw [size_alloc, size_alloc, hg])
  have hb : Below w.heap.size w wb := by rw [hwb]; exact below_alloc (below_alloc (below_alloc (Below.refl _ _) _) _) _
  have hs : wb.heap.size = g + 3 := by rw [hwb, size_alloc, size_alloc, size_alloc, hg]
  have HB := Aside0.mk (⟨h0, h1, h2, hb, hs⟩ : _ ∧ _ ∧ _ ∧ _ ∧ _)
  have HWB := Aside0.mk hwb.symm
  clear h0 h1 h2 hb hs hwb
  have HG := Aside0.mk hg
  clear hg
  go_enter Tryd.func52, Tryd.ntmps52
  go_wp2
  rw [HWB.out, ← HG.out]
  refine start_ (n := 5) (S := fun w' => True) (ds := [2, 3, 4]) #[false, false, false, false, false] (by kernel_rfl) rfl rfl trivial (fun hHeld => ?_)
  refine pure_ (i := 0) (N := some 5) (v := ?_) (a' := ?_) #[true, false, false, false, false] rfl rfl (by kernel_rfl) (fun _ _ _ h => h) (Or.inl ⟨by rfl, ?_⟩) ?_ ?_
  rotate_left
  · intro w'
    go_simp
    with_reducible rfl
  rotate_left
  · simp only [Act.put, List.setIfInBounds_toArray, List.set_cons_zero, List.set_cons_succ, i64_w, i32_w]
    rfl
  refine pure_ (i := 1) (N := some 6) (v := ?_) (a' := ?_) #[true, true, false, false, false] rfl rfl (by kernel_rfl) (fun _ _ _ h => h) (Or.inl ⟨by rfl, ?_⟩) ?_ ?_
  rotate_left
  · intro w'
    go_simp
    with_reducible rfl
  rotate_left
  · simp only [Act.put, List.setIfInBounds_toArray, List.set_cons_zero, List.set_cons_succ, i64_w, i32_w]
    rfl
  refine tail_ 2 (by kernel_rfl) ?_
  simp only [List.toList_toArray, List.drop_succ_cons, List.drop_zero]
  refine bs2 rfl (.tmp 5) (.tmp 6) rfl (some ⟨g, 0, none⟩) 32 32 (some ⟨g + 1, 0, none⟩) 32 32 rfl rfl ?_
  obtain ⟨wc, hwc⟩ : ∃ wc, wc = (wb.drew.alloc (Obj.cells #[Value.slice (some ⟨g, 0, none⟩) 32 32, Value.slice (some ⟨g + 1, 0, none⟩) 32 32] 50)) := ⟨_, rfl⟩
  rw [← hwc]
  have hbc : Below wb.heap.size wb wc := (by rw [hwc]; exact (below_alloc (Below.refl _ _).drew _))
  have hgc : wc.heap[wb.heap.size]? = some (Obj.cells #[Value.slice (some ⟨g, 0, none⟩) 32 32, Value.slice (some ⟨g + 1, 0, none⟩) 32 32] 50 (0, 0)) := (by rw [hwc]; exact h_new rfl)
  clear hwc
  have HC := Aside0.mk (And.intro hbc hgc)
  clear hbc hgc
  refine wpList_built rfl 91 _ rfl #[.int .u8 78, .slice (some ⟨wb.heap.size, 0, none⟩) 2 2] (by kernel_rfl) ?_
  refine wpList_store_row rfl 91 (.tmp 4) (.tmp 8) rfl (g + 2) #[.int .u8 78, .slice (some ⟨wb.heap.size, 0, none⟩) 2 2] rfl rfl 91 #[.int .u8 0, .slice none 0 0] ((HC.out.1.block _ (by have := HB.out.2.2.2.2; omega)).trans HB.out.2.2.1) ?g3 ?g4 (all_one two_one) ?_
  case g3 => kernel_rfl
  case g4 => rfl
  go_wp2
  have hg1 := (HC.out.1.block (g + 2) (by have := HB.out.2.2.2.2; omega)).trans HB.out.2.2.1
  refine bodyPost_ret (v := .agg #[.int .u8 78, .slice (some ⟨wb.heap.size, 0, none⟩) 2 2]) ?_ rfl ⟨_, _, rfl, ?_, below_setRow (HB.out.2.2.2.1.trans (HC.out.1.mono (by have := HB.out.2.2.2.2; have := HG.out; omega))) (by have := HG.out; omega)⟩
  · exact results_cell_row rfl _ _ (g + 2) 91 _ (0, 0) _ rfl (setRow_heap _ _ _ _ _ _ hg1) hu91 rfl (by kernel_rfl)
  · refine ⟨by simp, fun W hW => ?_⟩
    have k0 := hW g _ (by have := HG.out; omega) ((setRow_other _ _ _ _ (by omega)).trans ((HC.out.1.block g (by have := HB.out.2.2.2.2; omega)).trans HB.out.1)) (fun _ _ e => by injection e with _ e; revert e; decide)
    have k1 := hW (g + 1) _ (by have := HG.out; omega) ((setRow_other _ _ _ _ (by omega)).trans ((HC.out.1.block (g + 1) (by have := HB.out.2.2.2.2; omega)).trans HB.out.2.1)) (fun _ _ e => by injection e with _ e; revert e; decide)
    have k2 := hW wb.heap.size _ (by have := HG.out; have := HB.out.2.2.2.2; omega) ((setRow_other _ _ _ _ (by have := HB.out.2.2.2.2; omega)).trans HC.out.2) (fun _ _ e => by injection e with _ e; revert e; decide)
    exact two_rows (p1 := p.b) (p2 := q.b) (by rw [p.h, q.h]; exact k2) (sum_C (row_cells k0)) (by rw [p.h]; omega) (sum_C (row_cells k1)) (by rw [q.h]; omega)
set_option maxHeartbeats 4000000 in
theorem leaf4b_calls (x : Lf) (hk1 : x.k.size ≤ 100000) (w : World) :
    Calls Tryd.prog 51 #[.agg (cL x)] w fun e w' => ∃ A c, e = .returned (.agg #[.int .u8 76, .slice A 2 c]) ∧ Rub w.heap.size w' A c [bytesOf x.k, x.v.b] ∧ Below w.heap.size w w' := by
  have hu91 := Tryd.underlying91
  obtain ⟨g, hg⟩ : ∃ g, g = w.heap.size := ⟨_, rfl⟩
  obtain ⟨wb, hwb⟩ : ∃ wb, wb = (w.alloc (.cells (cL x) 33)).alloc (.cells #[.int .u8 0, .slice none 0 0] 91) := ⟨_, rfl⟩
  have h0 : wb.heap[g]? = some (.cells (cL x) 33 (0, 0)) := by rw [hwb, h_old (by simp only [size_alloc]; omega)]; exact h_new hg
  have h1 : wb.heap[g + 1]? = some (.cells #[.int .u8 0, .slice none 0 0] 91 (0, 0)) := by rw [hwb]; exact h_new (by rw [size_alloc, hg])
  have hb : Below w.heap.size w wb := by rw [hwb]; exact below_alloc (below_alloc (Below.refl _ _) _) _
  have hs : wb.heap.size = g + 2 := by rw [hwb, size_alloc, size_alloc, hg]
  have hcx := cell_L0 h0
  have HB := Aside0.mk (⟨h0, h1, hb, hs, hcx⟩ : _ ∧ _ ∧ _ ∧ _ ∧ _)
  have HWB := Aside0.mk hwb.symm
  clear h0 h1 hb hs hwb hcx
  have HG := Aside0.mk hg
  clear hg
  go_enter Tryd.func51, Tryd.ntmps51
  go_wp2
  rw [HWB.out, ← HG.out]
  refine start_ (n := 8) (S := fun w' => Below wb.heap.size wb w') (ds := [5, 6, 7]) #[false, false, false, false, false, false, false, false] (by kernel_rfl) rfl rfl (Below.refl _ _).drew (fun hHeld => ?_)
  refine pure_ (i := 0) (N := some 3) (v := ?_) (a' := ?_) #[true, false, false, false, false, false, false, false] rfl rfl (by kernel_rfl) (fun _ _ _ h => h) (Or.inl ⟨by rfl, ?_⟩) ?_ ?_
  rotate_left
  · intro w'
    go_simp
    with_reducible rfl
  rotate_left
  · simp only [Act.put, List.setIfInBounds_toArray, List.set_cons_zero, List.set_cons_succ, i64_w, i32_w]
    rfl
  refine take_ (i := 1) (N := some 4) (v := ?_) (a' := ?_) #[true, true, false, false, false, false, false, false] rfl rfl (by kernel_rfl) (fun _ _ _ h => h) (Or.inl ⟨by rfl, ?_⟩) hHeld ?_ ?_
  rotate_left
  · intro w' hS
    have hx := (hS.cell (World.block_lt_of_cell? _ _ HB.out.2.2.2.2)).trans HB.out.2.2.2.2
    go_simp
    with_reducible rfl
  rotate_left
  · simp only [Act.put, List.setIfInBounds_toArray, List.set_cons_zero, List.set_cons_succ, i64_w, i32_w]
    rfl
  refine pure_ (i := 3) (N := some 6) (v := ?_) (a' := ?_) #[true, true, false, true, false, false, false, false] rfl rfl (by kernel_rfl) (fun _ _ _ h => h) (Or.inl ⟨by rfl, ?_⟩) ?_ ?_
  rotate_left
  · intro w'
    go_simp
    with_reducible rfl
  rotate_left
  · simp only [Act.put, List.setIfInBounds_toArray, List.set_cons_zero, List.set_cons_succ, i64_w, i32_w]
    rfl
  refine pure_ (i := 4) (N := some 7) (v := ?_) (a' := ?_) #[true, true, false, true, true, false, false, false] rfl rfl (by kernel_rfl) (fun _ _ _ h => h) (Or.inl ⟨by rfl, ?_⟩) ?_ ?_
  rotate_left
  · intro w'
    go_simp
    with_reducible rfl
  rotate_left
  · simp only [Act.put, List.setIfInBounds_toArray, List.set_cons_zero, List.set_cons_succ, i64_w, i32_w]
    rfl
  refine one_ (i := 2) (N := some 5) #[true, true, true, true, true, false, false, false] rfl rfl (by kernel_rfl) (by decide) (fun K hK => ?_)
  refine value_ (by rfl) rfl (str_value _ rfl x.k rfl Tryd.underlying9 Tryd.underlying50 Tryd.underlying5) ?_
  refine hK.out _ _ (below_tr hHeld (bytes_below' _ _) hHeld.size) (fun hHeld => ?_)
  clear hK K
  refine norm_ (a' := ?_) ?_ ?_
  rotate_left
  · show Act.put _ (some 5) _ = _
    simp only [Act.put, List.setIfInBounds_toArray, List.set_cons_zero, List.set_cons_succ, i64_w, i32_w]
    rfl
  refine tail_ 5 (by kernel_rfl) ?_
  simp only [List.toList_toArray, List.drop_succ_cons, List.drop_zero]
  have hcs := string_C (W := wb.drew) (s := x.k) (by omega)
  have hcap := grownCap_ge wb.drew x.k.size 0 5
  have hsz : (Lib.bytesWorld wb.drew 5 x.k).heap.size = g + 3 := by rw [Lib.bytesWorld_size]; show wb.heap.size + 1 = _; rw [HB.out.2.2.2.1]
  have hcs : Kd.C (Kd.int .u8) (Lib.bytesWorld wb.drew 5 x.k) (some ⟨wb.heap.size, 0, none⟩) (bytesOf x.k).length (bytesOf x.k) := hcs
  have hby : ∃ cells fr, (Lib.bytesWorld wb.drew 5 x.k).heap[wb.heap.size]? = some (.cells cells 5 fr) := ⟨_, _, Lib.bytesWorld_at_new wb.drew 5 x.k⟩
  obtain ⟨cap, hcp⟩ : ∃ cap, cap = grownCap wb.drew x.k.size 0 5 := ⟨_, rfl⟩
  rw [← hcp] at hcap ⊢
  clear hcp
  rename_i _ hHeld0
  generalize Lib.bytesWorld wb.drew 5 x.k = wd at hcs hsz hHeld hby ⊢
  obtain ⟨bcs, bfr, hby⟩ := hby
  refine bs2 rfl (.tmp 5) (.tmp 7) rfl (some ⟨wb.heap.size, 0, none⟩) x.k.size cap (some ⟨g, 1, none⟩) 32 32 rfl rfl ?_
  obtain ⟨wc, hwc⟩ : ∃ wc, wc = wd.alloc (Obj.cells #[Value.slice (some ⟨wb.heap.size, 0, none⟩) x.k.size cap, Value.slice (some ⟨g, 1, none⟩) 32 32] 50) := ⟨_, rfl⟩
  rw [← hwc]
  have hbc : Below wd.heap.size wd wc := (by rw [hwc]; exact below_alloc (Below.refl _ _) _)
  have hgc : wc.heap[wd.heap.size]? = some (Obj.cells #[Value.slice (some ⟨wb.heap.size, 0, none⟩) x.k.size cap, Value.slice (some ⟨g, 1, none⟩) 32 32] 50 (0, 0)) := (by rw [hwc]; exact h_new rfl)
  clear hwc
  have hbw := below_tr hHeld hbc hHeld.size
  have hbyc := (hbc.block wb.heap.size (by have := HB.out.2.2.2.1; omega)).trans hby
  have h0c := (hbw.block g (by have := HB.out.2.2.2.1; omega)).trans HB.out.1
  have h1c := (hbw.block (g + 1) (by have := HB.out.2.2.2.1; omega)).trans HB.out.2.1
  have HC := Aside0.mk (⟨Kd.C_below hcs hbc, hcap, hsz, hgc, hbyc, h0c, h1c, hbw⟩ : _ ∧ _ ∧ _ ∧ _ ∧ _ ∧ _ ∧ _ ∧ _)
  clear hcs hcap hsz hbc hgc hby hbyc h0c h1c hbw
  refine wpList_built rfl 91 _ rfl #[.int .u8 76, .slice (some ⟨wd.heap.size, 0, none⟩) 2 2] (by kernel_rfl) ?_
  refine wpList_store_row rfl 91 (.tmp 2) (.tmp 9) rfl (g + 1) #[.int .u8 76, .slice (some ⟨wd.heap.size, 0, none⟩) 2 2] rfl rfl 91 #[.int .u8 0, .slice none 0 0] HC.out.2.2.2.2.2.2.1 ?g3 ?g4 (all_one two_one) ?_
  case g3 => kernel_rfl
  case g4 => rfl
  go_wp2
  refine bodyPost_ret (v := .agg #[.int .u8 76, .slice (some ⟨wd.heap.size, 0, none⟩) 2 2]) ?_ rfl ⟨_, _, rfl, ?_, below_setRow (HB.out.2.2.1.trans (HC.out.2.2.2.2.2.2.2.mono (by have := HB.out.2.2.2.1; have := HG.out; omega))) (by have := HG.out; omega)⟩
  · exact results_cell_row rfl _ _ (g + 1) 91 _ (0, 0) _ rfl (setRow_heap _ _ _ _ _ _ HC.out.2.2.2.2.2.2.1) hu91 rfl (by kernel_rfl)
  · refine ⟨by simp, fun W hW => ?_⟩
    have k0 := hW g _ (by have := HG.out; omega) ((setRow_other _ _ _ _ (by omega)).trans HC.out.2.2.2.2.2.1) (fun _ _ e => by injection e with _ e; revert e; decide)
    have k1 := hW wb.heap.size _ (by have := HG.out; have := HB.out.2.2.2.1; omega) ((setRow_other _ _ _ _ (by have := HB.out.2.2.2.1; omega)).trans HC.out.2.2.2.2.1) (fun _ _ e => by injection e with _ e; revert e; decide)
    have k2 := hW wd.heap.size _ (by have := HG.out; have := HC.out.2.2.1; omega) ((setRow_other _ _ _ _ (by have := HC.out.2.2.1; omega)).trans HC.out.2.2.2.1) (fun _ _ e => by injection e with _ e; revert e; decide)
    exact two_rows (p1 := bytesOf x.k) (p2 := x.v.b) (by rw [bytesOf_length, x.v.h]; exact k2) (C_blk HC.out.1 (k1.trans HC.out.2.2.2.2.1.symm)) (by rw [bytesOf_length]; exact HC.out.2.1) (sum_C (at_L1 (row_cells k0))) (by rw [x.v.h]; omega)
end Go.Proofs.YtanabbjakacgbaaDoor.Sp
namespace Go.Proofs.YtanabbjakacgbaaDoor.Sp
open Go.RowKit Go.Proofs.YtanabbjakacgbaaDoorW.PrintWords Go.Proofs.YtanabbjakacgbaaDoorW.PrintLast Go.Proofs.YtanabbjakacgbaaDoorW.PrintMore Go.Proofs.YtanabbjakacgbaaDoor.PM
set_option linter.unusedVariables false
set_option linter.unusedSimpArgs false
set_option maxRecDepth 100000
attribute [local go_sem] Oper.semAt_some
def bsOf (p : List Int) : List UInt8 := p.map fun n => UInt8.ofNat n.toNat
def strB (p : List Int) : ByteArray := ⟨(bsOf p).toArray⟩
theorem strB_inj {p q : List Int} (hp : ∀ b ∈ p, 0 ≤ b ∧ b < 256) (hq : ∀ b ∈ q, 0 ≤ b ∧ b < 256) (h : strB p = strB q) : p = q := by
  have h1 : bsOf p = bsOf q := by
    have := congrArg (fun b : ByteArray => b.data.toList) h
    simpa [strB] using this
  clear h
  induction p generalizing q with
  | nil => cases q with
    | nil => rfl
    | cons _ _ => simp [bsOf] at h1
  | cons x p ih => cases q with
    | nil => simp [bsOf] at h1
    | cons y q =>
      simp only [bsOf, List.map_cons] at h1
      injection h1 with e1 e2
      have e3 := congrArg UInt8.toNat e1
      rw [UInt8.toNat_ofNat', UInt8.toNat_ofNat'] at e3
      have b1 := hp x List.mem_cons_self
      have b2 := hq y List.mem_cons_self
      have : x = y := by omega
      rw [this, ih (fun b hb => hp b (List.mem_cons_of_mem _ hb)) (fun b hb => hq b (List.mem_cons_of_mem _ hb)) e2]
theorem part_str {w : World} {A : Option Addr} {c : Nat} {ps : List (List Int)} (h : Rob w A c ps) (hf : Fit ps) (i : Nat) (hi : i < ps.length) :
    ∃ ad A1 c1, A = some ad ∧ w.cell? (ad.add i) = some (.slice A1 (ps.getD i []).length c1) ∧ ∀ W, Below w.heap.size w W → (convert 50 9 (.slice A1 (ps.getD i []).length c1)).run Tryd.prog W = .ok (.string (strB (ps.getD i []))) W := by
  obtain ⟨ad, c0, e, h1, hK, hc⟩ := Kd.C_get h.now ([] : List Int) (i : Int) (by omega) (by omega)
  rw [Int.toNat_natCast] at hK hc
  obtain ⟨A1, c1, rfl, hc1, hC1⟩ := hK
  refine ⟨ad, A1, c1, e, ?_, fun W hW => ?_⟩
  · have := hc 0 _ rfl
    simpa [Kd.slice] using this
  · have hC2 := Kd.C_below hC1 hW
    have hm : ps.getD i [] ∈ ps := by rw [List.getD_eq_getElem?_getD, List.getElem?_eq_getElem hi]; exact List.getElem_mem _
    obtain ⟨p, hp⟩ : ∃ p, ps.getD i [] = p := ⟨_, rfl⟩
    rw [hp] at hC2 hm ⊢
    have hb := (hf.2 p hm).2
    by_cases h0 : 0 < p.length
    · have h2 := Kd.reads_of_C (enc := Value.int .u8) (d := (0 : Int)) hC2
      obtain ⟨ad2, e2, hc2⟩ := h2.2.2 h0
      subst e2
      have := run_convert_bytes_back (P := Tryd.prog) W 50 9 5 ad2 c1 (bsOf p) Tryd.underlying50 Tryd.underlying5 Tryd.underlying9 (fun j hj => by
        have hj' : j < p.length := by simpa [bsOf] using hj
        rw [hc2 j hj']
        have hbj := hb _ (List.getElem_mem hj')
        simp only [List.getD_eq_getElem?_getD, List.getElem?_eq_getElem hj', Option.getD_some, bsOf, List.getElem_map]
        congr 1
        show Value.int .u8 _ = Value.int .u8 _
        congr 1
        rw [UInt8.toNat_ofNat']
        omega)
      rw [show (bsOf p).length = p.length by simp [bsOf]] at this
      exact this
    · have hp0 : p = [] := List.length_eq_zero_iff.1 (by omega)
      subst hp0
      cases A1 with
      | none => exact run_convert_bytes_nil W 50 5 Tryd.underlying50 Tryd.underlying5 _ _ 9 Tryd.underlying9
      | some ad2 =>
        exact run_convert_bytes_back (P := Tryd.prog) W 50 9 5 ad2 c1 [] Tryd.underlying50 Tryd.underlying5 Tryd.underlying9 (fun j hj => by simp at hj)
end Go.Proofs.YtanabbjakacgbaaDoor.Sp

