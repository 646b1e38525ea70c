/- Put together by this session's program out of: Pb Pc Sl Gs Sn Hh Id Ie Ic Ta Pd Ia. -/
import Derived.Laws.BitsAllLaws
import Derived.Lib.AppendZeros
import Derived.Lib.AppendZerosOnto
import Derived.Lib.Overlaps
import Derived.Test.YtanabbjakacgbaaDoorM10
import Derived.Test.YtanabbjakacgbaaDoorM11
import Derived.Test.YtanabbjakacgbaaDoorM4
import Derived.Test.YtanabbjakacgbaaDoorM2
import Derived.Test.YtanabbjakacgbaaDoorM8
namespace Go.Proofs.YtanabbjakacgbaaDoor.Sp
open Go.RowKit Go.Proofs.YtanabbjakacgbaaDoorW.PrintWords Go.Proofs.YtanabbjakacgbaaDoorW.PrintLast Go.Proofs.YtanabbjakacgbaaDoorW.PrintMore Go.Proofs.YtanabbjakacgbaaDoor.PM
set_option linter.unusedVariables false
set_option linter.unusedSimpArgs false
theorem bl_irr : ∀ a : List UInt8, Op.bytesLess a a = false
  | [] => rfl
  | x :: a => by rw [Op.bytesLess]; simp [UInt8.lt_irrefl, bl_irr a]
theorem bl_trans : ∀ a b c : List UInt8, Op.bytesLess a b = true → Op.bytesLess b c = true → Op.bytesLess a c = true
  | [], [], c, h1, h2 => by simp [Op.bytesLess] at h1
  | [], _ :: _, [], h1, h2 => by simp [Op.bytesLess] at h2
  | [], _ :: _, _ :: _, h1, h2 => rfl
  | _ :: _, [], _, h1, h2 => by simp [Op.bytesLess] at h1
  | _ :: _, _ :: _, [], h1, h2 => by simp [Op.bytesLess] at h2
  | x :: a, y :: b, z :: c, h1, h2 => by
    have ih := bl_trans a b c
    simp only [Op.bytesLess, Bool.or_eq_true, Bool.and_eq_true, decide_eq_true_eq, beq_iff_eq] at h1 h2 ⊢
    rcases h1 with h1 | ⟨rfl, h1⟩
    · rcases h2 with h2 | ⟨rfl, h2⟩
      · exact .inl (UInt8.lt_trans h1 h2)
      · exact .inl h1
    · rcases h2 with h2 | ⟨rfl, h2⟩
      · exact .inl h2
      · exact .inr ⟨rfl, ih h1 h2⟩
theorem blt_irr (a : ByteArray) : blt a a = false := bl_irr _
theorem blt_trans {a b c : ByteArray} (h1 : blt a b = true) (h2 : blt b c = true) : blt a c = true := bl_trans _ _ _ h1 h2
theorem blt_ne {a b : ByteArray} (h : blt a b = true) : ¬ a = b := fun e => by rw [e, blt_irr] at h; cases h
theorem blt_asym {a b : ByteArray} (h : blt a b = true) : blt b a = false := by
  by_cases hb : blt b a = true
  · have := blt_trans h hb; rw [blt_irr] at this; cases this
  · simpa using hb
theorem blt_tot {a b : ByteArray} (h : blt a b = false) (hne : ¬ a = b) : blt b a = true := by
  have := bl_tri a.toList b.toList
  rw [show Op.bytesLess a.toList b.toList = false from h, Bool.false_or] at this
  by_cases hb : blt b a = true
  · exact hb
  · rw [show Op.bytesLess b.toList a.toList = false by simpa [blt] using hb] at this
    exact absurd (toList_inj.1 (by simpa using this)) hne
def Srt (l : List Lf) : Prop := l.Pairwise fun a b => blt a.k b.k = true
theorem Srt.one {l : List Lf} (h : Srt l) : ∀ {x y : Lf}, x ∈ l → y ∈ l → x.k = y.k → x = y := by
  induction l with
  | nil => intro x y hx; cases hx
  | cons z l ih =>
    intro x y hx hy e
    have h2 := List.pairwise_cons.1 h
    rcases List.mem_cons.1 hx with hx1 | hx1
    · rcases List.mem_cons.1 hy with hy1 | hy1
      · rw [hx1, hy1]
      · have := h2.1 _ hy1; rw [← e, hx1, blt_irr] at this; cases this
    · rcases List.mem_cons.1 hy with hy1 | hy1
      · have := h2.1 _ hx1; rw [e, hy1, blt_irr] at this; cases this
      · exact ih h2.2 hx1 hy1 e
theorem step_after (x y : Lf) (acc : List Lf) : putStep x (acc, true) y = if y.k = x.k then (acc, true) else (acc ++ [y], true) := by simp [putStep]
theorem step_lt {x y : Lf} (h : blt y.k x.k = true) (acc : List Lf) : putStep x (acc, false) y = (acc ++ [y], false) := by simp [putStep, h, blt_ne h]
theorem step_ge {x y : Lf} (h : blt y.k x.k = false) (acc : List Lf) : putStep x (acc, false) y = if y.k = x.k then (acc ++ [x], true) else (acc ++ [x] ++ [y], true) := by simp [putStep, h]
theorem put_after (x : Lf) : ∀ (l : List Lf) (acc : List Lf), l.foldl (putStep x) (acc, true) = (acc ++ l.filter fun y => decide (¬ y.k = x.k), true)
  | [], acc => by simp
  | y :: l, acc => by
    rw [List.foldl_cons, step_after]
    by_cases h : y.k = x.k
    · rw [if_pos h, put_after x l, List.filter_cons_of_neg (by simp [h])]
    · rw [if_neg h, put_after x l, List.filter_cons_of_pos (by simp [h]), List.append_assoc]
      rfl
theorem put_fold (x : Lf) : ∀ (l : List Lf) (acc : List Lf), Srt l → l.foldl (putStep x) (acc, false) = if (∀ y ∈ l, blt y.k x.k = true) then (acc ++ l, false) else (acc ++ (l.filter fun y => blt y.k x.k) ++ x :: l.filter (fun y => blt x.k y.k), true)
  | [], acc, h => by simp
  | y :: l, acc, h => by
    have h2 := List.pairwise_cons.1 h
    rw [List.foldl_cons]
    by_cases hy : blt y.k x.k = true
    · rw [step_lt hy, put_fold x l _ h2.2, List.filter_cons_of_pos (by simpa using hy), List.filter_cons_of_neg (by rw [blt_asym hy]; simp)]
      by_cases ha : ∀ z ∈ l, blt z.k x.k = true
      · rw [if_pos ha, if_pos (fun z hz => (List.mem_cons.1 hz).elim (fun e => e ▸ hy) (ha z)), List.append_assoc]; rfl
      · rw [if_neg ha, if_neg (fun hb => ha fun z hz => hb z (List.mem_cons_of_mem _ hz))]
        simp only [List.append_assoc, List.singleton_append, List.cons_append, List.nil_append]
    · have hyf : blt y.k x.k = false := by simpa using hy
      have hgt : ∀ z ∈ l, blt x.k z.k = true := fun z hz => by
        by_cases e : y.k = x.k
        · rw [← e]; exact h2.1 z hz
        · exact blt_trans (blt_tot hyf e) (h2.1 z hz)
      have f1 : (l.filter fun z => blt z.k x.k) = [] := List.filter_eq_nil_iff.2 fun z hz => by rw [blt_asym (hgt z hz)]; simp
      have f2 : (l.filter fun z => blt x.k z.k) = l := List.filter_eq_self.2 fun z hz => hgt z hz
      have f3 : (l.filter fun z => decide (¬ z.k = x.k)) = l := List.filter_eq_self.2 fun z hz => decide_eq_true (fun e => blt_ne (hgt z hz) e.symm)
      rw [if_neg (fun hb => hy (hb y List.mem_cons_self)), List.filter_cons_of_neg (by rw [hyf]; simp), f1, List.append_nil]
      by_cases e : y.k = x.k
      · rw [step_ge hyf, if_pos e, put_after, List.filter_cons_of_neg (by rw [e, blt_irr]; simp), f2, f3, List.append_assoc]; rfl
      · rw [step_ge hyf, if_neg e, put_after, List.filter_cons_of_pos (by simpa using blt_tot hyf e), f2, f3]
        simp only [List.append_assoc, List.singleton_append, List.cons_append, List.nil_append]
theorem putOf_eq (x : Lf) {l : List Lf} (h : Srt l) : putOf l x = (l.filter fun y => blt y.k x.k) ++ x :: l.filter (fun y => blt x.k y.k) := by
  rw [putOf, putGo, put_fold x l [] h]
  by_cases ha : ∀ z ∈ l, blt z.k x.k = true
  · rw [if_pos ha, if_neg (by simp)]
    have f1 : (l.filter fun z => blt z.k x.k) = l := List.filter_eq_self.2 fun z hz => ha z hz
    have f2 : (l.filter fun z => blt x.k z.k) = [] := List.filter_eq_nil_iff.2 fun z hz => by rw [blt_asym (ha z hz)]; simp
    rw [f1, f2, List.nil_append]
  · rw [if_neg ha, if_pos rfl, List.nil_append]
theorem mem_putOf (x : Lf) {l : List Lf} (h : Srt l) (y : Lf) : y ∈ putOf l x ↔ y = x ∨ (y ∈ l ∧ ¬ y.k = x.k) := by
  rw [putOf_eq x h, List.mem_append, List.mem_cons, List.mem_filter, List.mem_filter]
  constructor
  · rintro (⟨h1, h2⟩ | rfl | ⟨h1, h2⟩)
    · exact .inr ⟨h1, blt_ne h2⟩
    · exact .inl rfl
    · exact .inr ⟨h1, fun e => blt_ne h2 e.symm⟩
  · rintro (rfl | ⟨h1, h2⟩)
    · exact .inr (.inl rfl)
    · by_cases hb : blt y.k x.k = true
      · exact .inl ⟨h1, hb⟩
      · exact .inr (.inr ⟨h1, blt_tot (by simpa using hb) h2⟩)
theorem Srt.put (x : Lf) {l : List Lf} (h : Srt l) : Srt (putOf l x) := by
  rw [putOf_eq x h, Srt, List.pairwise_append]
  refine ⟨h.filter _, List.pairwise_cons.2 ⟨fun z hz => (List.mem_filter.1 hz).2, h.filter _⟩, fun a ha b hb => ?_⟩
  have h1 := (List.mem_filter.1 ha).2
  rcases List.mem_cons.1 hb with rfl | hb
  · exact h1
  · exact blt_trans h1 (List.mem_filter.1 hb).2
theorem Srt.made (a : List (Int × Int)) : Srt (madeOf a) := by
  have : ∀ (a : List (Int × Int)) (l : List Lf), Srt l → Srt (a.foldl (fun l p => putOf l (lfOf p)) l) := by
    intro a
    induction a with
    | nil => exact fun l h => h
    | cons p a ih => exact fun l h => ih _ (h.put _)
  exact this a [] List.Pairwise.nil
end Go.Proofs.YtanabbjakacgbaaDoor.Sp
namespace Go.Proofs.YtanabbjakacgbaaDoor.Sp
open Go.RowKit Go.Proofs.YtanabbjakacgbaaDoorW.PrintWords Go.Proofs.YtanabbjakacgbaaDoorW.PrintLast Go.Proofs.YtanabbjakacgbaaDoorW.PrintMore Go.Proofs.YtanabbjakacgbaaDoor.PM
set_option linter.unusedVariables false
set_option linter.unusedSimpArgs false
end Go.Proofs.YtanabbjakacgbaaDoor.Sp
namespace Go.Proofs.YtanabbjakacgbaaDoor.Sp
open Go.RowKit Go.Proofs.YtanabbjakacgbaaDoorW.PrintWords Go.Proofs.YtanabbjakacgbaaDoorW.PrintLast Go.Proofs.YtanabbjakacgbaaDoorW.PrintMore Go.Proofs.YtanabbjakacgbaaDoor.PM
set_option linter.unusedVariables false
set_option linter.unusedSimpArgs false
set_option maxRecDepth 100000
attribute [local go_sem] Oper.semAt_some
theorem Oct.take {a : List (Int × Int)} (h : Oct a) (n : Nat) : Oct (a.take n) := fun p hp => h p (List.mem_of_mem_take hp)
theorem Made12_calls (a : List (Int × Int)) (ha : Oct a) (A : Option Addr) (c : Nat) (w : World) (hr : kQ.C w A a.length a) (hc : a.length ≤ c) (l : List Lf) (hl : madeOf (a.take 12) = l) :
    Calls Tryd.prog 11 #[.slice A a.length c, .int .i64 12] w fun e w' => ∃ A' c', e = .returned (.slice A' l.length c') ∧ kL.R 33 w' 0 (fun _ => True) (.slice A' l.length c') l ∧ Below w.heap.size w w' := by
  have h := Made_calls a ha 12 (by decide) A c w hr hc
  rw [hl] at h
  refine h.mono ?_
  rintro e w' ⟨v, rfl, hr2, hb2⟩
  obtain ⟨A', c', rfl⟩ := Kd.R_slice hr2
  exact ⟨A', c', rfl, Kd.R_lower hr2 (Nat.zero_le _), hb2⟩
structure PvSt (w0 : World) (A : Option Addr) (c : Nat) (l : List Lf) (g : Nat) (r : Sm) (w : World) : Prop where
  below : Below w0.heap.size w0 w
  words : Words w
  row : kL.R 33 w 0 (fun _ => True) (.slice A l.length c) l
  br : w.heap[g]? = some (.cells (cS r) 27 (0, 0))
theorem PvSt.next {w0 w w' : World} {A : Option Addr} {c g : Nat} {l : List Lf} {r : Sm} (h : PvSt w0 A c l g r w) (hb : Below w.heap.size w w') : PvSt w0 A c l g r w' :=
  ⟨h.below.trans (hb.mono h.below.size), h.words.below hb, Kd.R_below h.row hb, at_next h.br hb⟩
end Go.Proofs.YtanabbjakacgbaaDoor.Sp
namespace Go.Proofs.YtanabbjakacgbaaDoor.Grow
open Go Go.RowKit Go.Proofs.YtanabbjakacgbaaDoorW.PrintWords Go.Proofs.YtanabbjakacgbaaDoorW.PrintLast
set_option linter.unusedVariables false
set_option linter.unusedSimpArgs false
section
variable {P : Program} {ops : Array Oper} {Q : Exit → Act → World → Prop} {S : World → Prop} {ds : List Nat}
theorem getD_same {a b : Array Bool} {j : Nat} {d : Bool} (h : a[j]? = b[j]?) : a.getD j d = b.getD j d := by
  rw [Array.getD_eq_getD_getElem?, Array.getD_eq_getD_getElem?, h]
end
end Go.Proofs.YtanabbjakacgbaaDoor.Grow
namespace Go.Proofs.YtanabbjakacgbaaDoor.Sp
open Go.RowKit Go.Proofs.YtanabbjakacgbaaDoorW.PrintWords Go.Proofs.YtanabbjakacgbaaDoorW.PrintLast Go.Proofs.YtanabbjakacgbaaDoorW.PrintMore Go.Proofs.YtanabbjakacgbaaDoor.PM Go.Proofs.YtanabbjakacgbaaDoor.Grow
set_option linter.unusedVariables false
set_option linter.unusedSimpArgs false
set_option maxRecDepth 100000
attribute [local go_sem] Oper.semAt_some
def Paused (p : Prop) : Prop := p
theorem pause_ {p : Prop} (h : Paused p) : p := h
theorem unpause_ {p : Prop} (h : p) : Paused p := h
def Bx (bs : List (Nat × Array Value)) (w : World) : Prop := ∀ x ∈ bs, w.heap[x.1]? = some (.cells x.2 36 (0, 0))
structure RfSt (wB : World) (g8 : Nat) (r : Sm) (bs : List (Nat × Array Value)) (w : World) : Prop where
  below : Below wB.heap.size wB w
  br : w.heap[g8]? = some (.cells (cS r) 27 (0, 0))
  bx : Bx bs w
section
variable {wB w w' : World} {g8 b : Nat} {r : Sm} {bs : List (Nat × Array Value)} {C C' : Array Value} {v : Value} {e : Int} {l : Lf}
theorem RfSt.next (h : RfSt wB g8 r bs w) (hb : Below w.heap.size w w') : RfSt wB g8 r bs w' := ⟨below_tr h.below hb h.below.size, at_next h.br hb, fun x hx => at_next (h.bx x hx) hb⟩
structure Alone (wB : World) (g8 b : Nat) (bs : List (Nat × Array Value)) : Prop where
  new : wB.heap.size ≤ b
  root : g8 ≠ b
  apart : ∀ x ∈ bs, x.1 ≠ b
theorem RfSt.set (h : RfSt wB g8 r ((b, C) :: bs) w) (ha : Alone wB g8 b bs) (hw : w'.heap[b]? = some (.cells C' 36 (0, 0))) (hk : ∀ k, k ≠ b → w'.heap[k]? = w.heap[k]?) (hbel : Below wB.heap.size wB w') : RfSt wB g8 r ((b, C') :: bs) w' :=
  ⟨hbel, (hk _ ha.root).trans h.br, fun x hx => by
    rcases List.mem_cons.1 hx with rfl | hx
    · exact hw
    · exact (hk _ (ha.apart x hx)).trans (h.bx x (List.mem_cons_of_mem _ hx))⟩
theorem RfSt.one (h : RfSt wB g8 r ((b, C) :: bs) w) : w.heap[b]? = some (.cells C 36 (0, 0)) := h.bx (b, C) List.mem_cons_self
theorem RfSt.row (h : RfSt wB g8 r ((b, C) :: bs) w) (ha : Alone wB g8 b bs) : RfSt wB g8 r ((b, C') :: bs) (w.setRow b C') :=
  h.set ha (setRow_heap _ _ _ _ _ _ h.one) (fun k hk => setRow_other _ _ _ _ hk) (below_setRow h.below ha.new)
theorem RfSt.add (h : RfSt wB g8 r bs w) (Z C : Array Value) : RfSt wB g8 r ((w.heap.size, C) :: bs) ((w.alloc (.cells Z 36)).setRow w.heap.size C) ∧ Alone wB g8 w.heap.size bs ∧ Below w.heap.size w ((w.alloc (.cells Z 36)).setRow w.heap.size C) := by
  have hb : Below w.heap.size w ((w.alloc (.cells Z 36)).setRow w.heap.size C) := below_setRow (below_alloc (Below.refl _ _) _) (Nat.le_refl _)
  refine ⟨⟨(h.next hb).below, (h.next hb).br, fun x hx => ?_⟩, ⟨h.below.size, ?_, fun x hx => ?_⟩, hb⟩
  · rcases List.mem_cons.1 hx with rfl | hx
    · exact setRow_heap _ _ _ _ _ _ (h_new rfl)
    · exact (h.next hb).bx x hx
  · have := (Array.getElem?_eq_some_iff.1 h.br).1; omega
  · have := (Array.getElem?_eq_some_iff.1 (h.bx x hx)).1; omega
end
end Go.Proofs.YtanabbjakacgbaaDoor.Sp
namespace Go.Proofs.YtanabbjakacgbaaDoor.Sp
open Go.RowKit Go.Proofs.YtanabbjakacgbaaDoorW.PrintWords Go.Proofs.YtanabbjakacgbaaDoorW.PrintLast Go.Proofs.YtanabbjakacgbaaDoorW.PrintMore Go.Proofs.YtanabbjakacgbaaDoor.PM Go.Proofs.YtanabbjakacgbaaDoor.Grow
set_option linter.unusedVariables false
set_option linter.unusedSimpArgs false
set_option maxRecDepth 100000
theorem add_at (g o j : Nat) : (⟨g, o, none⟩ : Addr).add j = ⟨g, o + j, none⟩ := by simp [Addr.add]
def Ty27 (w : World) (A : Option Addr) : Prop := ∀ ad, A = some ad → ∃ cells fr, w.heap[ad.block]? = some (.cells cells 27 fr)
theorem Ty27.below {w w' : World} {A : Option Addr} (h : Ty27 w A) (hb : Below w.heap.size w w') : Ty27 w' A := fun ad e => by
  obtain ⟨cells, fr, h1⟩ := h ad e
  exact ⟨cells, fr, at_next h1 hb⟩
end Go.Proofs.YtanabbjakacgbaaDoor.Sp
namespace Go.Proofs.YtanabbjakacgbaaDoor.Sp
open Go.RowKit Go.Proofs.YtanabbjakacgbaaDoorW.PrintWords Go.Proofs.YtanabbjakacgbaaDoorW.PrintLast Go.Proofs.YtanabbjakacgbaaDoorW.PrintMore Go.Proofs.YtanabbjakacgbaaDoor.PM
set_option linter.unusedVariables false
set_option linter.unusedSimpArgs false
set_option maxRecDepth 100000
def flL (xs : List Lf) : List Value := xs.flatMap fun x => (cL x).toList
theorem flL_len : ∀ xs : List Lf, (flL xs).length = xs.length * 33
  | [] => rfl
  | x :: xs => by
    rw [flL, List.flatMap_cons, List.length_append, List.length_cons, Array.length_toList, cL_size]
    have := flL_len xs
    rw [flL] at this
    rw [this]; omega
theorem flL_app (xs ys : List Lf) : flL (xs ++ ys) = flL xs ++ flL ys := List.flatMap_append
theorem flL_one (x : Lf) : flL [x] = (cL x).toList := by rw [flL, List.flatMap_cons, List.flatMap_nil, List.append_nil]
theorem flL_take (xs : List Lf) (n : Nat) (hn : n ≤ xs.length) : (flL xs).take (n * 33) = flL (xs.take n) := by
  have h : flL xs = flL (xs.take n) ++ flL (xs.drop n) := by rw [← flL_app, List.take_append_drop]
  rw [h, List.take_left']
  rw [flL_len, List.length_take, Nat.min_eq_left hn]
theorem flL_drop (xs : List Lf) (n : Nat) (hn : n ≤ xs.length) : (flL xs).drop (n * 33) = flL (xs.drop n) := by
  have h : flL xs = flL (xs.take n) ++ flL (xs.drop n) := by rw [← flL_app, List.take_append_drop]
  rw [h, List.drop_left']
  rw [flL_len, List.length_take, Nat.min_eq_left hn]
theorem flL_cell (xs : List Lf) : ∀ u ∈ flL xs, u.oneCell' = true := fun u hu => by
  obtain ⟨x, _, hx⟩ := List.mem_flatMap.1 hu
  exact cL_one x u hx
theorem reps_flL : ∀ xs : List Lf, Reps (fun x cs => cs = (cL x).toList) 33 xs (flL xs) := fun xs => by
  refine ⟨flL_len xs, fun j p hj => ?_⟩
  have hl : j < xs.length := (List.getElem?_eq_some_iff.1 hj).1
  obtain rfl : xs[j] = p := (List.getElem?_eq_some_iff.1 hj).2
  rw [flL_drop xs j (by omega), List.drop_eq_getElem_cons hl, ← List.singleton_append, flL_app, flL_one, List.take_left']
  rw [Array.length_toList, cL_size]
theorem flL_of : ∀ (xs : List Lf) (cs : List Value), Reps (fun x c => c = (cL x).toList) 33 xs cs → cs = flL xs
  | [], cs, h => by
    have := h.1
    exact List.eq_nil_of_length_eq_zero (by simpa using this)
  | x :: xs, cs, h => by
    have h0 := h.2 0 x rfl
    rw [Nat.zero_mul, List.drop_zero] at h0
    have hl := h.1
    rw [List.length_cons] at hl
    have ht : Reps (fun x c => c = (cL x).toList) 33 xs (cs.drop 33) := ⟨by rw [List.length_drop, hl]; omega, fun j p hj => by
      have := h.2 (j + 1) p (by simpa using hj)
      rw [List.drop_drop]
      rwa [show 33 + j * 33 = (j + 1) * 33 by omega]⟩
    rw [← List.take_append_drop 33 cs, h0, flL_of xs _ ht, ← List.singleton_append, flL_app, flL_one]
section
variable {P : Program} {w W : World} {base : Nat} {ok : Nat → Prop} {v : Value} {xs : List Lf}
theorem R_cells (h : kL.R 33 W base ok v xs) : (v = .slice none 0 0 ∧ xs = []) ∨ ∃ g cap cur, v = .slice (some ⟨g, 0, none⟩) xs.length cap ∧ base ≤ g ∧ W.heap[g]? = some (.cells cur 33 (0, 0)) ∧ xs.length ≤ cap ∧ cap ≤ maxLen ∧ cur.size = cap * 33 ∧ cur.toList.take (xs.length * 33) = flL xs := by
  obtain ⟨_, inner, ho, hr⟩ := h
  obtain rfl := flL_of xs inner hr
  rcases ho.2 with ⟨h1, h2⟩ | ⟨g, cap, cur, h1, h2, h3, h4, h5, h6, h7⟩
  · exact .inl ⟨h1, List.eq_nil_of_length_eq_zero h2⟩
  · exact .inr ⟨g, cap, cur, h1, h2, h3, h4, h5, h6, h7⟩
theorem R_of_cells {g cap : Nat} {cur : Array Value} (hb : base ≤ g) (hh : W.heap[g]? = some (.cells cur 33 (0, 0))) (hn : xs.length ≤ cap) (hm : cap ≤ maxLen) (hs : cur.size = cap * 33) (ht : cur.toList.take (xs.length * 33) = flL xs) : kL.R 33 W base (fun _ => True) (.slice (some ⟨g, 0, none⟩) xs.length cap) xs :=
  ⟨fun _ _ => trivial, flL xs, ⟨flL_len xs, .inr ⟨g, cap, cur, rfl, hb, hh, hn, hm, hs, ht⟩⟩, reps_flL xs⟩
theorem run_copy_rows (w : World) (dT sT ty elem : TypeId) (sz b o dLen dCap : Nat) (a : Addr) (sLen sCap n : Nat) (cs : List Value)
    (hu : P.underlying dT = some (.slice elem)) (hs : (P.info? elem).map (·.size) = some sz) (hn : n = Nat.min sLen dLen) (hl : cs.length = n * sz)
    (hsrc : ∀ j v, cs[j]? = some v → w.cell? (a.add j) = some v) (hc : ∀ j, j < cs.length → (w.cell? ⟨b, o + j, none⟩).isSome = true) (hf : ∀ j, j < cs.length → w.frozen? ⟨b, o + j, none⟩ = false) (h1 : ∀ v ∈ cs, v.oneCell' = true) :
    (Builtin.copy_ #[dT, sT] ty #[.slice (some ⟨b, o, none⟩) dLen dCap, .slice (some a) sLen sCap]).run P w = .ok (goInt n) (w.setCells b o cs) := by
  have hl1 := run_loadCells_list (P := P) w a cs hsrc
  have hst := run_storeCells_cells (P := P) b o cs 0 w (by simpa using hc) (by simpa using hf) h1
  rw [hl] at hl1
  cases hq : P.info? elem with
  | none => simp [hq] at hs
  | some i =>
    have hi : i.size = sz := by simpa [hq] using hs
    simp [Builtin.copy_, run_underlying hu, Builtin.lenOf, Builtin.firstCells, sizeOf, typeInfo, hq, hi, ← hn, hl1, hst]
theorem shift_R {g cap i : Nat} {cur : Array Value} {x : Lf} (hb : base ≤ g) (hh : W.heap[g]? = some (.cells cur 33 (0, 0))) (hn : xs.length + 1 ≤ cap) (hm : cap ≤ maxLen) (hs : cur.size = cap * 33) (ht : cur.toList.take (xs.length * 33) = flL xs) (hi : i ≤ xs.length) :
    ∃ cur1, (W.setCells g ((i + 1) * 33) (flL (xs.drop i))).heap[g]? = some (.cells cur1 33 (0, 0)) ∧ cur1.size = cur.size ∧ kL.R 33 ((W.setCells g ((i + 1) * 33) (flL (xs.drop i))).setCells g (i * 33) (cL x).toList) base (fun _ => True) (.slice (some ⟨g, 0, none⟩) (xs.length + 1) cap) (xs.take i ++ x :: xs.drop i) := by
  have hld : (flL (xs.drop i)).length = (xs.length - i) * 33 := by rw [flL_len, List.length_drop]
  have hmul : cap * 33 = (cap - (xs.length + 1)) * 33 + (xs.length + 1) * 33 := by rw [← Nat.add_mul]; congr 1; omega
  obtain ⟨c1, h1, s1, t1⟩ := setCells_row (flL (xs.drop i)) ((i + 1) * 33) W cur hh (by rw [hld]; omega)
  obtain ⟨c2, h2, s2, t2⟩ := setCells_row (cL x).toList (i * 33) _ c1 h1 (by rw [Array.length_toList, cL_size]; omega)
  refine ⟨c1, h1, s1, ?_⟩
  have hll : (xs.take i ++ x :: xs.drop i).length = xs.length + 1 := by rw [List.length_append, List.length_cons, List.length_take, List.length_drop]; omega
  have hcl : cur.toList.length = cur.size := Array.length_toList
  have e0 : cur.toList.take (i * 33) = flL (xs.take i) := by
    rw [← flL_take xs i hi, ← ht, List.take_take]
    congr 1
    omega
  have l1 : (cur.toList.take ((i + 1) * 33)).length = (i + 1) * 33 := by rw [List.length_take, hcl, hs]; omega
  have lx : (cL x).toList.length = 33 := by rw [Array.length_toList, cL_size]
  have k1 : c1.toList.take (i * 33) = flL (xs.take i) := by
    rw [t1, List.append_assoc, List.take_append_of_le_length (by rw [l1]; omega), List.take_take, Nat.min_eq_left (by omega), e0]
  have k2 : c1.toList.drop (i * 33 + 33) = flL (xs.drop i) ++ cur.toList.drop ((i + 1) * 33 + (flL (xs.drop i)).length) := by
    rw [t1, List.append_assoc, List.drop_left']
    rw [l1]; omega
  have k3 : c2.toList.take ((xs.length + 1) * 33) = flL (xs.take i ++ x :: xs.drop i) := by
    rw [t2, lx, k1, k2, ← List.append_assoc, List.take_left', flL_app, ← List.singleton_append, flL_app, flL_one, List.append_assoc]
    rw [List.length_append, List.length_append, flL_len, lx, hld, List.length_take, Nat.min_eq_left hi]; omega
  have := R_of_cells (xs := xs.take i ++ x :: xs.drop i) hb h2 (by rw [hll]; exact hn) hm (by rw [s2, s1, hs]) (by rw [hll]; exact k3)
  rw [hll] at this
  exact this
end
end Go.Proofs.YtanabbjakacgbaaDoor.Sp
namespace Go.Proofs.YtanabbjakacgbaaDoor.Sp
open Go.RowKit Go.Proofs.YtanabbjakacgbaaDoorW.PrintWords Go.Proofs.YtanabbjakacgbaaDoorW.PrintLast Go.Proofs.YtanabbjakacgbaaDoorW.PrintMore Go.Proofs.YtanabbjakacgbaaDoor.PM
set_option linter.unusedVariables false
set_option linter.unusedSimpArgs false
set_option maxRecDepth 100000
section
variable {W : World} {base : Nat} {xs : List Lf}
theorem grow_R {g cap i : Nat} {cur : Array Value} {x : Lf} (hb : base ≤ g) (hh : W.heap[g]? = some (.cells cur 33 (0, 0))) (hn : xs.length + 1 ≤ cap) (hm : cap ≤ maxLen) (hs : cur.size = cap * 33) (ht : cur.toList.take (i * 33) = flL (xs.take i)) (hi : i ≤ xs.length) :
    ∃ cur1, (W.setCells g (i * 33) (cL x).toList).heap[g]? = some (.cells cur1 33 (0, 0)) ∧ cur1.size = cur.size ∧ kL.R 33 ((W.setCells g (i * 33) (cL x).toList).setCells g ((i + 1) * 33) (flL (xs.drop i))) base (fun _ => True) (.slice (some ⟨g, 0, none⟩) (xs.length + 1) cap) (xs.take i ++ x :: xs.drop i) := by
  have hld : (flL (xs.drop i)).length = (xs.length - i) * 33 := by rw [flL_len, List.length_drop]
  have hmul : cap * 33 = (cap - (xs.length + 1)) * 33 + (xs.length + 1) * 33 := by rw [← Nat.add_mul]; congr 1; omega
  have lx : (cL x).toList.length = 33 := by rw [Array.length_toList, cL_size]
  obtain ⟨c1, h1, s1, t1⟩ := setCells_row (cL x).toList (i * 33) W cur hh (by rw [lx]; omega)
  obtain ⟨c2, h2, s2, t2⟩ := setCells_row (flL (xs.drop i)) ((i + 1) * 33) _ c1 h1 (by rw [hld]; omega)
  refine ⟨c1, h1, s1, ?_⟩
  have hll : (xs.take i ++ x :: xs.drop i).length = xs.length + 1 := by rw [List.length_append, List.length_cons, List.length_take, List.length_drop]; omega
  have lt : (flL (xs.take i)).length = i * 33 := by rw [flL_len, List.length_take, Nat.min_eq_left hi]
  have k1 : c1.toList.take ((i + 1) * 33) = flL (xs.take i) ++ (cL x).toList := by
    rw [t1, ht, List.take_left']
    rw [List.length_append, lt, lx]; omega
  have k3 : c2.toList.take ((xs.length + 1) * 33) = flL (xs.take i ++ x :: xs.drop i) := by
    rw [t2, k1, List.take_left', flL_app, ← List.singleton_append, flL_app, flL_one, List.append_assoc]
    rw [List.length_append, List.length_append, lt, lx, hld]; omega
  have := R_of_cells (xs := xs.take i ++ x :: xs.drop i) hb h2 (by rw [hll]; exact hn) hm (by rw [s2, s1, hs]) (by rw [hll]; exact k3)
  rw [hll] at this
  exact this
theorem app_Lall {wa W : World} {ops : Array Oper} {rest : List Oper} {o : Oper} {a : Act} {Q : Exit → Act → World → Prop} (hg : o.guard = none) (s x : Operand) (ho : o.op = .call { callee := .builtin .append, args := #[s, x], argTypes := #[24, 24] }) (v : Value) (xs ys : List Lf) (A : Option Addr) (c : Nat) (hs : a.eval s = v) (hx : a.eval x = .slice A ys.length c) (B : Nat) (HO : kL.R 33 W B (fun _ => True) v xs) (HR : kL.C W A ys.length ys) (HB : Below B wa W) (hB : B ≤ W.heap.size) (hl : xs.length + ys.length ≤ 1000000)
    (h : ∀ v1 w1, kL.R 33 w1 B (fun _ => True) v1 (xs ++ ys) → Below B wa w1 → W.grownBy w1 v.ownBlock → wpList Tryd.prog ops Q rest (a.put o.dst v1) w1) : wpList Tryd.prog ops Q (o :: rest) a W :=
  Kd.R_append_rows kL (w0 := wa) B hg s x 24 33 (.agg (cL zL)) 48 ho Tryd.underlying24 infoL (cL_size _) (by decide) (by decide) v xs ys A ys.length c (fun _ => True) (fun _ => False) hs hx HO HR (fun _ _ h => h) (fun _ h => h.elim) (fun _ _ => trivial) HB hB (by omega) (fun v1 w1 h1 h2 h3 _ => h v1 w1 h1 h2 h3)
end
theorem one_C {w : World} {h : Nat} {x : Lf} (hx : w.heap[h]? = some (.cells (cL x) 33 (0, 0))) : kL.C w (some ⟨h, 0, none⟩) 1 [x] := ⟨rfl, by decide, fun _ => ⟨_, rfl, fun j p hj => by
  have h0 : j = 0 := by have := (List.getElem?_eq_some_iff.1 hj).1; simp at this; exact this
  subst h0
  obtain rfl : x = p := by simpa using hj
  refine ⟨(cL x).toList, by rw [Array.length_toList, cL_size]; rfl, rfl, fun i u hu => ?_⟩
  rw [add_at, cell_of_row w h _ _ 33 _ hx]
  simpa using hu⟩⟩
theorem drew_cells (b : Nat) : ∀ (vs : List Value) (o : Nat) (w : World), (w.setCells b o vs).drew = w.drew.setCells b o vs
  | [], _, _ => rfl
  | v :: r, o, w => by rw [World.setCells, World.setCells, drew_cells b r]; rfl
theorem le8 {i k n : Nat} (hk : i + 1 = k) (hlt : i < n) : ((k : Int) ≤ (n : Int) + 1) = True := eq_true (by omega)
theorem ne9 {i k n G : Nat} (hk : i + 1 = k) (hlt : i < n) (h : n + 1 ≤ G) : (G = k) = False := eq_false (by omega)
theorem ne11 {i n : Nat} (hlt : i < n) : (n = i) = False := eq_false (by omega)
theorem w64k {i k n : Nat} (hk : i + 1 = k) (hlt : i < n) (hl : n ≤ 100000) : wrap64 ((i : Int) + 1) = (k : Int) := by unfold wrap64; omega
theorem mnk {i k n : Nat} (hk : i + 1 = k) (hlt : i < n) : n - i = Nat.min (n - i) (n + 1 - k) := by show _ = min _ _; omega
theorem ink {i k n G j z : Nat} (hk : i + 1 = k) (hlt : i < n) (h : n + 1 ≤ G) (hm : G * 33 = (G - (n + 1)) * 33 + (n + 1) * 33) (hz : z = G * 33) (hj : j < (n - i) * 33) : k * 33 + j < z := by omega
theorem in0 {i n G j z : Nat} (hlt : i < n) (h : n + 1 ≤ G) (hm : G * 33 = (G - (n + 1)) * 33 + (n + 1) * 33) (hz : z = G * 33) (hj : j < 33) : i * 33 + j < z := by omega
theorem exec_copy {P : Program} {oi : Oper} {a : Act} {w w' : World} {d x : Operand} {t t' : TypeId} {v u v' : Value} (ho : oi.op = .call { callee := .builtin .copy, args := #[d, x], argTypes := #[t, t'] }) (hd : a.eval d = v) (hx : a.eval x = u) (hr : (Builtin.copy_ #[t, t'] oi.type #[v, u]).run P w = .ok v' w') :
    (execOp a.eval oi).run P w = .ok (.value v') w' := by
  unfold execOp
  simp only [ho, resolve, invoke, builtin, Sem.run_bind, Sem.run_pure, Result.andThen_ok, List.map_toArray, List.map_cons, List.map_nil, hd, hx, hr]
set_option maxHeartbeats 4000000 in
theorem insert_calls (l : List Lf) (x : Lf) (i : Nat) (v : Value) (h base : Nat) (w0 w : World) (hr : kL.R 33 w base (fun _ => True) v l) (hbx : w.heap[h]? = some (.cells (cL x) 33 (0, 0))) (hne : v.ownBlock ≠ some h) (hi : i ≤ l.length) (hl : l.length ≤ 100000) (HB : Below base w0 w) (hbase : base ≤ w.heap.size) :
    Calls Tryd.prog 59 #[v, .int .i64 i, .slice (some ⟨h, 0, none⟩) 1 1] w fun e w' => ∃ v', e = .returned v' ∧ kL.R 33 w' base (fun _ => True) v' (l.take i ++ x :: l.drop i) ∧ Below base w0 w' := by
  rcases R_cells hr with ⟨rfl, rfl⟩ | ⟨g, cap, cur, rfl, hbg, hh, hn, hm, hs, ht⟩
  · have hC := Aside0.mk (one_C hbx)
    have HS := Aside0.mk (And.intro hr HB)
    obtain rfl : i = 0 := by simpa using hi
    clear hr hbx HB hne hi
    go_enter Tryd.func59, Tryd.ntmps59
    go_wp2_with (first
      | ((with_reducible refine gate_dst (N := 25) rfl ?_); (refine app_Lall (wa := w0) rfl (.tmp 23) (.tmp 24) rfl (.slice none 0 0) [] [x] (some ⟨h, 0, none⟩) 1 rfl rfl base HS.out.1 hC.out HS.out.2 hbase (by simp) ?_); intro v1 w1 hv1 hb1 hg1; have H1 := Aside0.mk (And.intro hv1 hb1); clear hv1 hb1 hg1))
    go_ret
    exact ⟨_, rfl, H1.out.1, H1.out.2⟩
  · by_cases hin : i = l.length
    · subst hin
      have hC := Aside0.mk (one_C hbx)
      have HS := Aside0.mk (And.intro hr HB)
      have c5 : ((l.length : Int) ≤ (cap : Int)) = True := eq_true (by omega)
      clear hr hbx HB hne hi
      go_enter Tryd.func59, Tryd.ntmps59
      go_wp2_with (first
        | ((with_reducible refine gate_dst (N := 25) rfl ?_); (refine app_Lall (wa := w0) rfl (.tmp 23) (.tmp 24) rfl (.slice (some ⟨g, 0, none⟩) l.length cap) l [x] (some ⟨h, 0, none⟩) 1 rfl rfl base HS.out.1 hC.out HS.out.2 hbase (by simp; omega) ?_); intro v1 w1 hv1 hb1 hg1; have H1 := Aside0.mk (And.intro hv1 hb1); clear hv1 hb1 hg1))
      all_goals
        go_ret
        exact ⟨v1, rfl, (by first | exact H1.out.1 | (rw [List.take_length, List.drop_length]; exact H1.out.1)), H1.out.2⟩
    · have hlt : i < l.length := by omega
      have HX := Aside0.mk (⟨hr, hbx, HB, hh, hbg⟩ : _ ∧ _ ∧ _ ∧ _ ∧ _)
      have hgh : h ≠ g := fun e => hne (by rw [e]; rfl)
      have c1 : ((i : Int) ≤ (l.length : Int)) = True := eq_true (by omega)
      have c2 : ((i : Int) = (l.length : Int)) = False := eq_false (by omega)
      have c3 : (i = l.length) = False := eq_false hin
      have c4 : (i ≤ cap) = True := eq_true (by omega)
      have c6 : (cap - i = 0) = False := eq_false (by omega)
      clear hr hbx HB hne hi
      rcases Nat.lt_or_ge cap (l.length + 1) with hroom | hroom
      · obtain rfl : cap = l.length := by omega
        have c7 : ((l.length : Int) < (l.length : Int) + 1) = True := eq_true (by omega)
        obtain ⟨i0, hi0, hzz⟩ := Option.map_eq_some_iff.1 infoL
        simp only [Prod.mk.injEq] at hzz
        obtain ⟨hz0, hz1, hz2⟩ := hzz
        have hold : (Builtin.firstCells i0.size i (.slice (some ⟨g, 0, none⟩) i l.length)).run Tryd.prog w.drew = .ok (flL (l.take i)).toArray w.drew := by
          rw [hz1]
          exact run_firstCells_some w.drew 33 i ⟨g, 0, none⟩ i l.length (flL (l.take i)) (by rw [flL_len, List.length_take, Nat.min_eq_left (by omega)]) (fun j v hj => by
            rw [add_at, Nat.zero_add, cell_of_row w.drew g _ cur 33 _ HX.out.2.2.2.1]
            rw [← flL_take l i (by omega), ← ht, List.take_take, List.getElem?_take] at hj
            split at hj
            · rwa [Array.getElem?_toList] at hj
            · cases hj)
        obtain ⟨G, hG⟩ : ∃ G, G = grownCap w (l.length + 1) l.length 33 := ⟨_, rfl⟩
        have hGge : l.length + 1 ≤ G := by rw [hG]; exact grownCap_ge _ _ _ _
        have hGle : G ≤ maxLen := by rw [hG]; exact grownCap_le_maxLen _ _ _ _ (by simp only [maxLen]; omega)
        obtain ⟨ROW, hROW⟩ : ∃ ROW : Array Value, ROW = (flL (l.take i)).toArray ++ Builtin.zeroCells (cL zL) (l.length + 1 - i) ++ Builtin.zeroCells (cL zL) (G - (l.length + 1)) := ⟨_, rfl⟩
        have hRs : ROW.size = G * 33 := by
          rw [hROW]
          simp only [Array.size_append, List.size_toArray, Builtin.zeroCells, Array.size_map, Array.size_range, cL_size, flL_len, List.length_take, Nat.min_eq_left (Nat.le_of_lt hlt)]
          rw [← Nat.add_mul, ← Nat.add_mul]
          congr 1
          omega
        have hRt : ROW.toList.take (i * 33) = flL (l.take i) := by
          rw [hROW, Array.toList_append, Array.toList_append, List.append_assoc, List.take_left']
          rw [flL_len, List.length_take, Nat.min_eq_left (Nat.le_of_lt hlt)]
        obtain ⟨W1, hW1⟩ : ∃ W1, W1 = w.drew.alloc (.cells ROW 33) := ⟨_, rfl⟩
        obtain ⟨N, hN⟩ : ∃ N, N = w.heap.size := ⟨_, rfl⟩
        have hrz : (Builtin.append_ #[24, 3] 24 #[.slice (some ⟨g, 0, none⟩) i l.length, .int .i64 ((l.length : Int) + 1 - (i : Int))]).run Tryd.prog w = .ok (.slice (some ⟨N, 0, none⟩) (l.length + 1) G) W1 := by
          have h := Lib.run_append_grow_zeros w 24 3 24 33 i0 _ .i64 .i64 Tryd.underlying24 Tryd.underlying3 hi0 hz0 (some ⟨g, 0, none⟩) i l.length (flL (l.take i)) hold (l.length + 1 - i) (by omega) (by omega) (by omega) (by omega) (by rw [hz2]; omega) (by rw [hz2, show i + (l.length + 1 - i) = l.length + 1 by omega]; exact growslice_fits (by omega) (by omega))
          rw [show i + (l.length + 1 - i) = l.length + 1 by omega, ← hG] at h
          rw [show ((l.length : Int) + 1 - (i : Int)) = ((l.length + 1 - i : Nat) : Int) by omega, h, hW1, hROW, hN]
          rfl
        have hw0 : W1.heap[N]? = some (.cells ROW 33 (0, 0)) := by rw [hW1]; exact h_new hN
        have hgN : g < N := by rw [hN]; exact (Array.getElem?_eq_some_iff.1 hh).1
        have hhN : h < N := by rw [hN]; exact (Array.getElem?_eq_some_iff.1 HX.out.2.1).1
        have hw1 : W1.heap[g]? = some (.cells cur 33 (0, 0)) := by rw [hW1, h_old (by show g < w.heap.size; rw [← hN]; exact hgN)]; exact hh
        have hw2 : W1.heap[h]? = some (.cells (cL x) 33 (0, 0)) := by rw [hW1, h_old (by show h < w.heap.size; rw [← hN]; exact hhN)]; exact HX.out.2.1
        have hbw : Below base w0 W1 := by rw [hW1]; exact below_tr HX.out.2.2.1 (below_alloc (Below.refl _ _).drew _) hbase
        have hbN : base ≤ N := by rw [hN]; exact hbase
        clear hW1 hN hG hROW hold hi0 hz0 hz1 hz2
        go_enter Tryd.func59, Tryd.ntmps59
        have d1 : (i ≤ G) = True := eq_true (by omega)
        have d2 : ((i : Int) ≤ (l.length : Int) + 1) = True := eq_true (by omega)
        have d3 : (G = i) = False := eq_false (by omega)
        go_wp2_with (first
          | ((with_reducible refine gate_dst (N := 40) rfl ?_); (refine Lib.wpList_append_run _ rfl _ _ _ _ rfl _ _ rfl rfl _ _ hrz ?_)))
        have hmul := Aside0.mk (show G * 33 = (G - (l.length + 1)) * 33 + (l.length + 1) * 33 by rw [← Nat.add_mul]; congr 1; omega)
        obtain ⟨cur1, hc1, hs1, hR⟩ := grow_R (W := W1) (x := x) hbN hw0 hGge hGle hRs hRt (Nat.le_of_lt hlt)
        rw [run_copy_rows _ 24 24 3 33 33 N (i * 33) (l.length + 1 - i) (G - i) ⟨h, 0, none⟩ 1 1 1 (cL x).toList Tryd.underlying24 (by kernel_rfl) (by show _ = min _ _; omega) (by rw [Array.length_toList, cL_size]) (fun j v hj => by
          rw [add_at, Nat.zero_add, cell_of_row _ h _ _ 33 _ hw2]; rwa [Array.getElem?_toList] at hj) (fun j hj => by
          rw [Array.length_toList, cL_size] at hj
          rw [cell_of_row _ N _ ROW 33 _ hw0, Array.getElem?_eq_getElem (in0 hlt hGge hmul.out hRs hj)]
          rfl) (fun j _ => blk_frozen hw0 _) (cL_one x)]
        obtain ⟨W2, hW2⟩ : ∃ W2, W1.setCells N (i * 33) (cL x).toList = W2 := ⟨_, rfl⟩
        rw [hW2] at hc1 hR ⊢
        have hg2 : W2.heap[g]? = some (.cells cur 33 (0, 0)) := by rw [← hW2]; exact (setCells_far _ _ g (Nat.ne_of_lt hgN)).trans hw1
        have hb2 : Below base w0 W2 := by rw [← hW2]; exact below_setCells _ _ hbw hbN
        have HS1 := Aside0.mk (show cur1.size = G * 33 by rw [hs1, hRs])
        clear hs1 hRs hRt hGle
        try simp only [Result.andThen]
        rw [Oper.upon_value]
        go_wp2
        obtain ⟨k, hk⟩ : ∃ k, i + 1 = k := ⟨_, rfl⟩
        rw [hk] at hR
        have hw1 : wrap64 ((i : Int) + 1) = (k : Int) := w64k hk hlt hl
        have c8 : ((k : Int) ≤ (l.length : Int) + 1) = True := le8 hk hlt
        have c9 : (G = k) = False := ne9 hk hlt hGge
        have c11 : (l.length = i) = False := ne11 hlt
        refine start_ (n := 9) (S := fun w' => w'.heap = W2.heap) (ds := [8]) #[false, false, false, false, false, false, false, false, false] (by kernel_rfl) rfl rfl rfl (fun hHeld => ?_)
        refine pure_ (i := 0) (N := some 46) (v := ?_) (a' := ?_) #[true, false, false, false, false, false, false, false, false] rfl rfl (by kernel_rfl) (fun _ _ _ h => h) (Or.inl ⟨by rfl, ?_⟩) ?_ ?_
        rotate_left
        · intro w'
          go_simp
          with_reducible rfl
        rotate_left
        · simp only [Act.put, List.setIfInBounds_toArray, List.set_cons_zero, List.set_cons_succ, i64_w, i32_w]
          rfl
        refine pure_ (i := 1) (N := some 47) (v := ?_) (a' := ?_) #[true, true, false, false, false, false, false, false, false] rfl rfl (by kernel_rfl) (fun _ _ _ h => h) (Or.inl ⟨by rfl, ?_⟩) ?_ ?_
        rotate_left
        · intro w'
          go_simp
          with_reducible rfl
        rotate_left
        · simp only [Act.put, List.setIfInBounds_toArray, List.set_cons_zero, List.set_cons_succ, i64_w, i32_w]
          rfl
        refine pure_ (i := 2) (N := some 48) (v := ?_) (a' := ?_) #[true, true, true, false, false, false, false, false, false] rfl rfl (by kernel_rfl) (fun _ _ _ h => h) (Or.inl ⟨by rfl, ?_⟩) ?_ ?_
        rotate_left
        · intro w'
          go_simp
          with_reducible rfl
        rotate_left
        · simp only [Act.put, List.setIfInBounds_toArray, List.set_cons_zero, List.set_cons_succ, i64_w, i32_w]
          rfl
        refine pure_ (i := 3) (N := some 49) (v := ?_) (a' := ?_) #[true, true, true, true, false, false, false, false, false] rfl rfl (by kernel_rfl) (fun _ _ _ h => h) (Or.inl ⟨by rfl, ?_⟩) ?_ ?_
        rotate_left
        · intro w'
          go_simp
          rw [i64_w, hw1]
          try with_reducible rfl
        rotate_left
        · simp only [Act.put, List.setIfInBounds_toArray, List.set_cons_zero, List.set_cons_succ, i64_w, i32_w]
          rfl
        refine pure_ (i := 4) (N := some 50) (v := ?_) (a' := ?_) #[true, true, true, true, true, false, false, false, false] rfl rfl (by kernel_rfl) (fun _ _ _ h => h) (Or.inl ⟨by rfl, ?_⟩) ?_ ?_
        rotate_left
        · intro w'
          go_simp
          with_reducible rfl
        rotate_left
        · simp only [Act.put, List.setIfInBounds_toArray, List.set_cons_zero, List.set_cons_succ, i64_w, i32_w]
          rfl
        refine pure_ (i := 5) (N := some 51) (v := ?_) (a' := ?_) #[true, true, true, true, true, true, false, false, false] rfl rfl (by kernel_rfl) (fun _ _ _ h => h) (Or.inl ⟨by rfl, ?_⟩) ?_ ?_
        rotate_left
        · intro w'
          go_simp
          with_reducible rfl
        rotate_left
        · simp only [Act.put, List.setIfInBounds_toArray, List.set_cons_zero, List.set_cons_succ, i64_w, i32_w]
          rfl
        refine pure_ (i := 6) (N := some 52) (v := ?_) (a' := ?_) #[true, true, true, true, true, true, true, false, false] rfl rfl (by kernel_rfl) (fun _ _ _ h => h) (Or.inl ⟨by rfl, ?_⟩) ?_ ?_
        rotate_left
        · intro w'
          go_simp
          with_reducible rfl
        rotate_left
        · simp only [Act.put, List.setIfInBounds_toArray, List.set_cons_zero, List.set_cons_succ, i64_w, i32_w]
          rfl
        refine pure_ (i := 7) (N := some 53) (v := ?_) (a' := ?_) #[true, true, true, true, true, true, true, true, false] rfl rfl (by kernel_rfl) (fun _ _ _ h => h) (Or.inl ⟨by rfl, ?_⟩) ?_ ?_
        rotate_left
        · intro w'
          go_simp
          with_reducible rfl
        rotate_left
        · simp only [Act.put, List.setIfInBounds_toArray, List.set_cons_zero, List.set_cons_succ, i64_w, i32_w]
          rfl
        refine last_ (i := 8) (N := some 54) #[true, true, true, true, true, true, true, true, true] rfl rfl (by kernel_rfl) (by decide) (fun K hK => ?_)
        refine value_ (by rfl) rfl (exec_copy rfl rfl rfl (run_copy_rows _ 24 24 _ 33 33 N (k * 33) (l.length + 1 - k) (G - k) ⟨g, i * 33, none⟩ (l.length - i) (l.length - i) (l.length - i) (flL (l.drop i)) Tryd.underlying24 (by kernel_rfl) (mnk hk hlt) (by rw [flL_len, List.length_drop]) ?c1 ?c2 ?c3 (flL_cell _))) ?_
        case c1 =>
          intro j v hj
          rw [add_at, cell_of_row W2.drew g _ cur 33 _ hg2]
          rw [← flL_drop l i (Nat.le_of_lt hlt), List.getElem?_drop, ← ht, List.getElem?_take] at hj
          split at hj
          · rwa [Array.getElem?_toList] at hj
          · cases hj
        case c2 =>
          intro j hj
          rw [flL_len, List.length_drop] at hj
          rw [cell_of_row W2.drew N _ cur1 33 _ hc1, Array.getElem?_eq_getElem (ink hk hlt hGge hmul.out HS1.out hj)]
          rfl
        case c3 => exact fun j _ => blk_frozen (w := W2.drew) hc1 _
        refine hK.out _ _ ?_
        clear hK K
        refine norm_ (a' := ?_) ?_ ?_
        rotate_left
        · show Act.put _ (some 54) _ = _
          simp only [Act.put, List.setIfInBounds_toArray, List.set_cons_zero, List.set_cons_succ, i64_w, i32_w]
          rfl
        refine done_ (by kernel_rfl) ?_
        go_wp2
        go_ret
        refine ⟨.slice (some ⟨N, 0, none⟩) (l.length + 1) G, rfl, ?_, below_setCells _ _ hb2.drew hbN⟩
        rw [← drew_cells]
        exact Kd.R_move hR (fun _ _ => rfl)
      · have c7 : ((cap : Int) < (l.length : Int) + 1) = False := eq_false (by omega)
        have hov : ∀ lb cb W, W.heap[h]? = some (.cells (cL x) 33 (0, 0)) → (∃ cs, W.heap[g]? = some (.cells cs 33 (0, 0)) ∧ cs.size ≠ 0) → (callFunc 81 #[.slice (some ⟨h, 0, none⟩) 1 1, .slice (some ⟨g, (i + 1) * 33, none⟩) lb cb]).run Tryd.prog W = .ok (.value (.bool false)) W := fun lb cb W h1 h2 => by
          obtain ⟨cs, h2, h3⟩ := h2
          rw [run_callFunc_extern Tryd.func81 (by kernel_rfl) (by kernel_rfl) (by kernel_rfl) (e := Extern.SlicesOverlaps.overlaps #[24, 24] #[4]) (by kernel_rfl),
            Lib.run_overlaps_apart W 24 4 33 Tryd.underlying24 33 Tryd.sizeOf33 ⟨h, 0, none⟩ ⟨g, (i + 1) * 33, none⟩ 1 1 lb cb hgh 33 33 33 cs.size (by simp [World.shape?, h1, cL_size]) (by simp [World.shape?, h2]) h3 (blk_frozen h1 _) (blk_frozen h1 _)]
          rfl
        go_enter Tryd.func59, Tryd.ntmps59
        have hcs0 : cur.size ≠ 0 := by omega
        go_wp2
        rw [hov _ _ w HX.out.2.1 ⟨cur, HX.out.2.2.2.1, hcs0⟩]
        try simp only [Result.andThen]
        rw [Oper.upon_value]
        go_wp2
        obtain ⟨k, hk⟩ : ∃ k, i + 1 = k := ⟨_, rfl⟩
        have hw1 : wrap64 ((i : Int) + 1) = (k : Int) := by unfold wrap64; omega
        have c8 : ((k : Int) ≤ (l.length : Int) + 1) = True := eq_true (by omega)
        have c9 : (cap = k) = False := eq_false (by omega)
        have c10 : ((i : Int) ≤ (l.length : Int) + 1) = True := eq_true (by omega)
        have c11 : (cap = i) = False := eq_false (by omega)
        refine start_ (n := 9) (S := fun w' => w'.heap = w.heap) (ds := [8]) #[false, false, false, false, false, false, false, false, false] (by kernel_rfl) rfl rfl rfl (fun hHeld => ?_)
        refine pure_ (i := 0) (N := some 69) (v := ?_) (a' := ?_) #[true, false, false, false, false, false, false, false, false] rfl rfl (by kernel_rfl) (fun _ _ _ h => h) (Or.inl ⟨by rfl, ?_⟩) ?_ ?_
        rotate_left
        · intro w'
          go_simp
          with_reducible rfl
        rotate_left
        · simp only [Act.put, List.setIfInBounds_toArray, List.set_cons_zero, List.set_cons_succ, i64_w, i32_w]
          rfl
        refine pure_ (i := 1) (N := some 70) (v := ?_) (a' := ?_) #[true, true, false, false, false, false, false, false, false] rfl rfl (by kernel_rfl) (fun _ _ _ h => h) (Or.inl ⟨by rfl, ?_⟩) ?_ ?_
        rotate_left
        · intro w'
          go_simp
          with_reducible rfl
        rotate_left
        · simp only [Act.put, List.setIfInBounds_toArray, List.set_cons_zero, List.set_cons_succ, i64_w, i32_w]
          rfl
        refine pure_ (i := 2) (N := some 71) (v := ?_) (a' := ?_) #[true, true, true, false, false, false, false, false, false] rfl rfl (by kernel_rfl) (fun _ _ _ h => h) (Or.inl ⟨by rfl, ?_⟩) ?_ ?_
        rotate_left
        · intro w'
          go_simp
          with_reducible rfl
        rotate_left
        · simp only [Act.put, List.setIfInBounds_toArray, List.set_cons_zero, List.set_cons_succ, i64_w, i32_w]
          rfl
        refine pure_ (i := 3) (N := some 72) (v := ?_) (a' := ?_) #[true, true, true, true, false, false, false, false, false] rfl rfl (by kernel_rfl) (fun _ _ _ h => h) (Or.inl ⟨by rfl, ?_⟩) ?_ ?_
        rotate_left
        · intro w'
          go_simp
          rw [i64_w, hw1]
          try with_reducible rfl
        rotate_left
        · simp only [Act.put, List.setIfInBounds_toArray, List.set_cons_zero, List.set_cons_succ, i64_w, i32_w]
          rfl
        refine pure_ (i := 4) (N := some 73) (v := ?_) (a' := ?_) #[true, true, true, true, true, false, false, false, false] rfl rfl (by kernel_rfl) (fun _ _ _ h => h) (Or.inl ⟨by rfl, ?_⟩) ?_ ?_
        rotate_left
        · intro w'
          go_simp
          with_reducible rfl
        rotate_left
        · simp only [Act.put, List.setIfInBounds_toArray, List.set_cons_zero, List.set_cons_succ, i64_w, i32_w]
          rfl
        refine pure_ (i := 5) (N := some 74) (v := ?_) (a' := ?_) #[true, true, true, true, true, true, false, false, false] rfl rfl (by kernel_rfl) (fun _ _ _ h => h) (Or.inl ⟨by rfl, ?_⟩) ?_ ?_
        rotate_left
        · intro w'
          go_simp
          with_reducible rfl
        rotate_left
        · simp only [Act.put, List.setIfInBounds_toArray, List.set_cons_zero, List.set_cons_succ, i64_w, i32_w]
          rfl
        refine pure_ (i := 6) (N := some 75) (v := ?_) (a' := ?_) #[true, true, true, true, true, true, true, false, false] rfl rfl (by kernel_rfl) (fun _ _ _ h => h) (Or.inl ⟨by rfl, ?_⟩) ?_ ?_
        rotate_left
        · intro w'
          go_simp
          with_reducible rfl
        rotate_left
        · simp only [Act.put, List.setIfInBounds_toArray, List.set_cons_zero, List.set_cons_succ, i64_w, i32_w]
          rfl
        refine pure_ (i := 7) (N := some 76) (v := ?_) (a' := ?_) #[true, true, true, true, true, true, true, true, false] rfl rfl (by kernel_rfl) (fun _ _ _ h => h) (Or.inl ⟨by rfl, ?_⟩) ?_ ?_
        rotate_left
        · intro w'
          go_simp
          with_reducible rfl
        rotate_left
        · simp only [Act.put, List.setIfInBounds_toArray, List.set_cons_zero, List.set_cons_succ, i64_w, i32_w]
          rfl
        refine last_ (i := 8) (N := some 77) #[true, true, true, true, true, true, true, true, true] rfl rfl (by kernel_rfl) (by decide) (fun K hK => ?_)
        refine value_ (by rfl) rfl (exec_copy rfl rfl rfl (run_copy_rows _ 24 24 _ 33 33 g (k * 33) (l.length + 1 - k) (cap - k) ⟨g, i * 33, none⟩ (l.length + 1 - i) (cap - i) (l.length - i) (flL (l.drop i)) Tryd.underlying24 (by kernel_rfl) (by show _ = min _ _; omega) (by rw [flL_len, List.length_drop]) ?c1 ?c2 ?c3 (flL_cell _))) ?_
        case c1 =>
          intro j v hj
          rw [add_at, cell_of_row w.drew g _ cur 33 _ HX.out.2.2.2.1]
          rw [← flL_drop l i (by omega), List.getElem?_drop, ← ht, List.getElem?_take] at hj
          split at hj
          · rwa [Array.getElem?_toList] at hj
          · cases hj
        case c2 =>
          intro j hj
          rw [flL_len, List.length_drop] at hj
          rw [cell_of_row w.drew g _ cur 33 _ HX.out.2.2.2.1, Array.getElem?_eq_getElem (by omega)]
          rfl
        case c3 => exact fun j _ => blk_frozen (w := w.drew) HX.out.2.2.2.1 _
        refine hK.out _ _ ?_
        clear hK K
        refine norm_ (a' := ?_) ?_ ?_
        rotate_left
        · show Act.put _ (some 77) _ = _
          simp only [Act.put, List.setIfInBounds_toArray, List.set_cons_zero, List.set_cons_succ, i64_w, i32_w]
          rfl
        refine done_ (by kernel_rfl) ?_
        obtain ⟨cur1, hc1, hs1, hR⟩ := shift_R (W := w.drew) (x := x) hbg HX.out.2.2.2.1 hroom hm hs ht (Nat.le_of_lt hlt)
        rw [hk] at hc1 hR
        have hx1 : (w.drew.setCells g (k * 33) (flL (l.drop i))).heap[h]? = some (.cells (cL x) 33 (0, 0)) := (setCells_far _ _ h hgh).trans HX.out.2.1
        have hb1 : Below base w0 (w.drew.setCells g (k * 33) (flL (l.drop i))) := below_setCells _ _ HX.out.2.2.1.drew hbg
        go_wp2
        rw [run_copy_rows _ 24 24 3 33 33 g (i * 33) (l.length + 1 - i) (cap - i) ⟨h, 0, none⟩ 1 1 1 (cL x).toList Tryd.underlying24 (by kernel_rfl) (by show _ = min _ _; omega) (by rw [Array.length_toList, cL_size]) (fun j v hj => by
          rw [add_at, Nat.zero_add, cell_of_row _ h _ _ 33 _ hx1]; rwa [Array.getElem?_toList] at hj) (fun j hj => by
          rw [Array.length_toList, cL_size] at hj
          rw [cell_of_row _ g _ cur1 33 _ hc1, Array.getElem?_eq_getElem (by omega)]
          rfl) (fun j _ => blk_frozen hc1 _) (cL_one x)]
        simp only [Result.andThen]
        rw [Oper.upon_value]
        go_wp2
        go_ret
        exact ⟨_, rfl, hR, below_setCells _ _ hb1 hbg⟩
end Go.Proofs.YtanabbjakacgbaaDoor.Sp
namespace Go.Proofs.YtanabbjakacgbaaDoor.Sp
open Go.RowKit Go.Proofs.YtanabbjakacgbaaDoorW.PrintWords Go.Proofs.YtanabbjakacgbaaDoorW.PrintLast Go.Proofs.YtanabbjakacgbaaDoorW.PrintMore Go.Proofs.YtanabbjakacgbaaDoor.PM
set_option linter.unusedVariables false
set_option linter.unusedSimpArgs false
set_option maxRecDepth 100000
set_option maxHeartbeats 4000000 in
theorem search_calls (l : List Lf) (k : ByteArray) (A : Option Addr) (c : Nat) (w : World) (hr : kL.C w A l.length l) (hl : l.length ≤ 100000) (hs : ∀ t u, t ≤ u → u < l.length → (blt (l.getD u zL).k k = true → blt (l.getD t zL).k k = true) ∧ (blt (l.getD t zL).k k = false → blt (l.getD u zL).k k = false)) :
    Calls Tryd.prog 78 #[.slice A l.length c, .string k, .func (.func 79) #[] #[]] w fun e w' => ∃ i : Nat, Place l k i ∧ e = .returned (.tuple #[.int .i64 (i : Int), .bool (decide (i < l.length ∧ (l.getD i zL).k = k))]) ∧ Below w.heap.size w w' := by
  have HS := Aside0.mk (And.intro hr hs)
  clear hr hs
  go_enter Tryd.func78, Tryd.ntmps78
  go_wp2
  go_loopw [9, 10, 11] (fun i j h wr => ∃ a b : Nat, i = .int .i64 (a : Int) ∧ j = .int .i64 (b : Int) ∧ a ≤ b ∧ b ≤ l.length ∧ Aside0 ((∀ t, t < a → blt (l.getD t zL).k k = true) ∧ (∀ t, b ≤ t → t < l.length → blt (l.getD t zL).k k = false) ∧ Below w.heap.size w wr)) (fun i j _ _ => (intOf j - intOf i).toNat)
  case atStart => exact ⟨0, l.length, by simp, by simp, by omega, by omega, Aside0.mk ⟨fun t h => by omega, fun t h1 h2 => by omega, Below.refl _ _⟩⟩
  case round =>
    obtain ⟨a, b, rfl, rfl, hab, hbl, HR⟩ := hrel
    by_cases c5 : a < b
    · have c5b : ((a : Int) < (b : Int)) = True := eq_true (by omega)
      have hah : a ≤ (a + b) / 2 ∧ (a + b) / 2 < b := by omega
      obtain ⟨y, hy⟩ : ∃ y, y = l.getD ((a + b) / 2) zL := ⟨_, rfl⟩
      obtain ⟨ad, eA, hat⟩ := at_flat HS.out.1 zL (((a + b) / 2 : Nat) : Int) (by omega) (by omega)
      subst eA
      rw [Int.toNat_natCast, ← hy] at hat
      have hl1 := le_L hat HR.out.2.2
      have HY := Aside0.mk hy
      clear hy hat
      have HAH := Aside0.mk hah
      by_cases hlt : blt y.k k = true
      · have hc5 : (cmpB y.k k < 0) = True := eq_true ((cmpB_lt _ _).2 hlt)
        have HLT := Aside0.mk hlt
        clear hlt
        go_wp2_with (first
          | ((with_reducible refine gate_dst (N := 28) rfl ?_); (refine wpList_loadv rfl 33 _ rfl _ rfl _ (hl1 0) ?_))
          | (go_at_call 79; (with_reducible refine (findC_calls y k wr).mono ?_); rintro e w1 ⟨rfl, hb1⟩; have H1 := Aside0.mk (below_tr HR.out.2.2 hb1 HR.out.2.2.size); clear hb1))
        exact ⟨⟨(a + b) / 2 + 1, b, by simp, rfl, by omega, by omega, Aside0.mk ⟨fun t ht => (HS.out.2 t ((a + b) / 2) (by omega) (by omega)).1 (by rw [← HY.out]; exact HLT.out), HR.out.2.1, H1.out⟩⟩, by simp [intOf]; omega⟩
      · have hc5 : (cmpB y.k k < 0) = False := eq_false (fun h => hlt ((cmpB_lt _ _).1 h))
        have HLT := Aside0.mk (show blt y.k k = false by simpa using hlt)
        clear hlt
        go_wp2_with (first
          | ((with_reducible refine gate_dst (N := 28) rfl ?_); (refine wpList_loadv rfl 33 _ rfl _ rfl _ (hl1 0) ?_))
          | (go_at_call 79; (with_reducible refine (findC_calls y k wr).mono ?_); rintro e w1 ⟨rfl, hb1⟩; have H1 := Aside0.mk (below_tr HR.out.2.2 hb1 HR.out.2.2.size); clear hb1))
        exact ⟨⟨a, (a + b) / 2, rfl, by simp, by omega, by omega, Aside0.mk ⟨HR.out.1, fun t h1 h2 => (HS.out.2 ((a + b) / 2) t (by omega) h2).2 (by rw [← HY.out]; exact HLT.out), H1.out⟩⟩, by simp [intOf]; omega⟩
    · obtain rfl : a = b := by omega
      have c5b : ((a : Int) < (a : Int)) = False := eq_false (by omega)
      have hpl : Place l k a := ⟨hbl, HR.out.1, HR.out.2.1⟩
      have HPL := Aside0.mk hpl
      rcases Nat.lt_or_ge a l.length with ha | ha
      · have c5c : ((a : Int) < (l.length : Int)) = True := eq_true (by omega)
        have c5d : ((0 : Int) ≤ (a : Int)) = True := eq_true (by omega)
        obtain ⟨y, hy⟩ : ∃ y, y = l.getD a zL := ⟨_, rfl⟩
        obtain ⟨ad, eA, hat⟩ := at_flat HS.out.1 zL (a : Int) (by omega) (by omega)
        subst eA
        rw [Int.toNat_natCast, ← hy] at hat
        have hl1 := le_L hat HR.out.2.2
        obtain ⟨q, hq⟩ : ∃ q : Bool, (cmpB y.k k == 0) = q := ⟨_, rfl⟩
        have hqd : decide (a < l.length ∧ (l.getD a zL).k = k) = q := by
          rw [← hq, ← hy]
          by_cases e : y.k = k
          · rw [decide_eq_true ⟨ha, e⟩, (cmpB_eq _ _).2 e]; rfl
          · rw [decide_eq_false (fun h => e h.2)]
            have : ¬ cmpB y.k k = 0 := fun h => e ((cmpB_eq _ _).1 h)
            simp [this]
        have HQ := Aside0.mk hqd
        have HQ1 := Aside0.mk hq
        clear hy hat hq hqd hpl
        go_wp2_with (first
          | ((with_reducible refine gate_dst (N := 44) rfl ?_); refine wpList_wanted (by rfl) ?_; (refine wpList_loadv rfl 33 _ rfl _ rfl _ (hl1 0) ?_))
          | (go_at_call 79; (with_reducible refine (findC_calls y k wr).mono ?_); rintro e w1 ⟨rfl, hb1⟩; have H1 := Aside0.mk (below_tr HR.out.2.2 hb1 HR.out.2.2.size); clear hb1))
        refine bodyPost_ret (results_tmp2 rfl _ _ _) rfl ?_
        exact ⟨a, HPL.out, (by rw [HQ.out, ← HQ1.out]; first | done | rfl | simp), H1.out⟩
      · obtain rfl : a = l.length := by omega
        have HQ := Aside0.mk (show decide (l.length < l.length ∧ (l.getD l.length zL).k = k) = false from decide_eq_false (fun h => absurd h.1 (Nat.lt_irrefl _)))
        have H1 := Aside0.mk HR.out.2.2
        clear hpl
        go_wp2
        refine bodyPost_ret (results_tmp2 rfl _ _ _) rfl ?_
        exact ⟨l.length, HPL.out, (by rw [HQ.out]; first | done | rfl), H1.out⟩
theorem find_calls (l : List Lf) (k : ByteArray) (A : Option Addr) (c : Nat) (w : World) (hr : kL.C w A l.length l) (hl : l.length ≤ 100000) (hs : ∀ t u, t ≤ u → u < l.length → (blt (l.getD u zL).k k = true → blt (l.getD t zL).k k = true) ∧ (blt (l.getD t zL).k k = false → blt (l.getD u zL).k k = false)) :
    Calls Tryd.prog 58 #[.slice A l.length c, .string k] w fun e w' => ∃ (i : Nat) (q : Bool), Place l k i ∧ decide (i < l.length ∧ (l.getD i zL).k = k) = q ∧ e = .returned (.tuple #[.int .i64 (i : Int), .bool q]) ∧ Below w.heap.size w w' := by
  have HS := Aside0.mk (And.intro hr hs)
  clear hr hs
  go_enter Tryd.func58, Tryd.ntmps58
  go_wp2_with (go_at_call 78; (with_reducible refine (search_calls l k A c w HS.out.1 hl HS.out.2).mono ?_); rintro e w1 ⟨i, hi, rfl, hb1⟩; (obtain ⟨q, hq⟩ : ∃ q, decide (i < l.length ∧ (l.getD i zL).k = k) = q := ⟨_, rfl⟩); rw [hq]; have H1 := Aside0.mk (⟨hi, hb1, hq⟩ : _ ∧ _ ∧ _); clear hi hb1 hq)
  refine bodyPost_ret (results_tmp2 rfl _ _ _) rfl ?_
  exact ⟨i, q, H1.out.1, H1.out.2.2, rfl, H1.out.2.1⟩
end Go.Proofs.YtanabbjakacgbaaDoor.Sp
namespace Go.Proofs.YtanabbjakacgbaaDoor.Sp
open Go.RowKit Go.Proofs.YtanabbjakacgbaaDoorW.PrintWords Go.Proofs.YtanabbjakacgbaaDoorW.PrintLast Go.Proofs.YtanabbjakacgbaaDoorW.PrintMore Go.Proofs.YtanabbjakacgbaaDoor.PM
set_option linter.unusedVariables false
set_option linter.unusedSimpArgs false
set_option maxRecDepth 100000
attribute [local go_sem] Oper.semAt_some
theorem putOf_len' (x : Lf) {l : List Lf} (h : Srt l) : (putOf l x).length ≤ l.length + 1 := by
  rw [putOf_eq x h, List.length_append, List.length_cons]
  have : ∀ l : List Lf, (l.filter fun y => blt y.k x.k).length + (l.filter fun y => blt x.k y.k).length ≤ l.length := by
    intro l
    induction l with
    | nil => simp
    | cons y l ih =>
      by_cases h1 : blt y.k x.k = true
      · rw [List.filter_cons_of_pos (by simpa using h1), List.filter_cons_of_neg (by rw [blt_asym h1]; simp), List.length_cons, List.length_cons]; omega
      · rw [List.filter_cons_of_neg (by simpa using h1), List.length_cons]
        by_cases h2 : blt x.k y.k = true
        · rw [List.filter_cons_of_pos (by simpa using h2), List.length_cons]; omega
        · rw [List.filter_cons_of_neg (by simpa using h2)]; omega
  have := this l
  omega
end Go.Proofs.YtanabbjakacgbaaDoor.Sp
namespace Go.Proofs.YtanabbjakacgbaaDoor.Sp
open Go.RowKit Go.Proofs.YtanabbjakacgbaaDoorW.PrintWords Go.Proofs.YtanabbjakacgbaaDoorW.PrintLast Go.Proofs.YtanabbjakacgbaaDoorW.PrintMore Go.Proofs.YtanabbjakacgbaaDoor.PM
set_option linter.unusedVariables false
set_option linter.unusedSimpArgs false
theorem pair_ext {α : Type} {R : α → α → Prop} (hr : ∀ a b, R a b → R b a → False) : ∀ (a b : List α), a.Pairwise R → b.Pairwise R → (∀ x, x ∈ a ↔ x ∈ b) → a = b
  | [], [], _, _, _ => rfl
  | [], y :: b, _, _, h => by have := (h y).2 List.mem_cons_self; cases this
  | x :: a, [], _, _, h => by have := (h x).1 List.mem_cons_self; cases this
  | x :: a, y :: b, ha, hb, h => by
    have ha2 := List.pairwise_cons.1 ha
    have hb2 := List.pairwise_cons.1 hb
    have e : x = y := by
      rcases List.mem_cons.1 ((h x).1 List.mem_cons_self) with e | h1
      · exact e
      · rcases List.mem_cons.1 ((h y).2 List.mem_cons_self) with e | h2
        · exact e.symm
        · exact (hr _ _ (hb2.1 _ h1) (ha2.1 _ h2)).elim
    subst e
    rw [pair_ext hr a b ha2.2 hb2.2 (fun z => ?_)]
    constructor
    · intro hz
      rcases List.mem_cons.1 ((h z).1 (List.mem_cons_of_mem _ hz)) with rfl | h1
      · exact (hr _ _ (ha2.1 _ hz) (ha2.1 _ hz)).elim
      · exact h1
    · intro hz
      rcases List.mem_cons.1 ((h z).2 (List.mem_cons_of_mem _ hz)) with rfl | h1
      · exact (hr _ _ (hb2.1 _ hz) (hb2.1 _ hz)).elim
      · exact h1
theorem blt_asy (a b : ByteArray) (h1 : blt a b = true) (h2 : blt b a = true) : False := by rw [blt_asym h1] at h2; cases h2
theorem srt_ext {a b : List Lf} (ha : Srt a) (hb : Srt b) (h : ∀ x, x ∈ a ↔ x ∈ b) : a = b :=
  pair_ext (R := fun x y : Lf => blt x.k y.k = true) (fun _ _ h1 h2 => blt_asy _ _ h1 h2) a b ha hb h
def chStep (m : List Lf) (p : Int × Int) : List Lf := if p.2 % 4 = 0 then dropOf m (keyB p.1) else putOf m (lfOf p)
def chOf (l : List Lf) (b : List (Int × Int)) : List Lf := b.foldl chStep l
theorem Srt.drop {l : List Lf} (h : Srt l) (k : ByteArray) : Srt (dropOf l k) := by rw [dropOf]; exact h.filter _
theorem Srt.ch : ∀ (b : List (Int × Int)) (l : List Lf), Srt l → Srt (chOf l b) ∧ (chOf l b).length ≤ l.length + b.length ∧ ∀ y ∈ chOf l b, y ∈ l ∨ ∃ p ∈ b, y = lfOf p
  | [], l, h => ⟨h, Nat.le_refl _, fun y hy => .inl hy⟩
  | p :: b, l, h => by
    have e : chOf l (p :: b) = chOf (chStep l p) b := rfl
    rw [e]
    have hs : Srt (chStep l p) ∧ (chStep l p).length ≤ l.length + 1 ∧ ∀ y ∈ chStep l p, y ∈ l ∨ y = lfOf p := by
      rw [chStep]
      split
      · exact ⟨h.drop _, by have := dropOf_len l (keyB p.1); omega, fun y hy => .inl (List.mem_filter.1 hy).1⟩
      · exact ⟨h.put _, putOf_len' _ h, fun y hy => ((mem_putOf _ h y).1 hy).elim .inr (fun h => .inl h.1)⟩
    obtain ⟨i1, i2, i3⟩ := Srt.ch b (chStep l p) hs.1
    refine ⟨i1, by rw [List.length_cons]; omega, fun y hy => ?_⟩
    rcases i3 y hy with h1 | ⟨q, hq, h1⟩
    · rcases hs.2.2 y h1 with h2 | h2
      · exact .inl h2
      · exact .inr ⟨p, List.mem_cons_self, h2⟩
    · exact .inr ⟨q, List.mem_cons_of_mem _ hq, h1⟩
theorem made_le (a : List (Int × Int)) : (madeOf a).length ≤ a.length := by
  have : ∀ (a : List (Int × Int)) (l : List Lf), Srt l → (a.foldl (fun l p => putOf l (lfOf p)) l).length ≤ l.length + a.length := by
    intro a
    induction a with
    | nil => exact fun l h => Nat.le_refl _
    | cons p a ih =>
      intro l h
      have h1 := ih _ (h.put (lfOf p))
      have h2 := putOf_len' (lfOf p) h
      rw [List.foldl_cons, List.length_cons]; omega
  have h := this a [] List.Pairwise.nil
  simp only [List.length_nil, Nat.zero_add] at h
  exact h
end Go.Proofs.YtanabbjakacgbaaDoor.Sp
namespace Go.Proofs.YtanabbjakacgbaaDoor.Sp
open Go.RowKit
set_option linter.unusedVariables false
set_option linter.unusedSimpArgs false
theorem getD_mem {l : List Lf} {t : Nat} (h : t < l.length) : l.getD t zL ∈ l := by
  rw [List.getD_eq_getElem?_getD, List.getElem?_eq_getElem h]
  exact List.getElem_mem _
theorem mem_getD {l : List Lf} {x : Lf} (h : x ∈ l) : ∃ t, t < l.length ∧ l.getD t zL = x := by
  obtain ⟨t, ht, rfl⟩ := List.getElem_of_mem h
  exact ⟨t, ht, by rw [List.getD_eq_getElem?_getD, List.getElem?_eq_getElem ht]; rfl⟩
theorem mem_take_getD {l : List Lf} {n : Nat} {x : Lf} (h : x ∈ l.take n) : ∃ t, t < n ∧ t < l.length ∧ l.getD t zL = x := by
  obtain ⟨t, ht, hx⟩ := mem_getD h
  rw [List.length_take] at ht
  refine ⟨t, by omega, by omega, ?_⟩
  rw [List.getD_eq_getElem?_getD, List.getElem?_take, if_pos (by omega), ← List.getD_eq_getElem?_getD] at hx
  exact hx
theorem mem_drop_getD {l : List Lf} {n : Nat} {x : Lf} (h : x ∈ l.drop n) : ∃ t, n ≤ t ∧ t < l.length ∧ l.getD t zL = x := by
  obtain ⟨t, ht, hx⟩ := mem_getD h
  rw [List.length_drop] at ht
  refine ⟨n + t, by omega, by omega, ?_⟩
  rw [List.getD_eq_getElem?_getD, List.getElem?_drop, ← List.getD_eq_getElem?_getD] at hx
  exact hx
section
variable {l : List Lf} {k : ByteArray} {x : Lf} {i : Nat}
theorem Place.filter_lt (h : Place l k i) : (l.filter fun y => blt y.k k) = l.take i := by
  rw [← List.take_append_drop i l, List.filter_append]
  have f1 : ((l.take i).filter fun y => blt y.k k) = l.take i := List.filter_eq_self.2 fun z hz => by
    obtain ⟨t, h1, _, rfl⟩ := mem_take_getD hz; exact h.lo t h1
  have f2 : ((l.drop i).filter fun y => blt y.k k) = [] := List.filter_eq_nil_iff.2 fun z hz => by
    obtain ⟨t, h1, h2, rfl⟩ := mem_drop_getD hz; rw [h.hi t h1 h2]; simp
  rw [f1, f2, List.append_nil, List.take_append_drop]
theorem srt_lt (hs : Srt l) {a b : Nat} (hab : a < b) (hb : b < l.length) : blt (l.getD a zL).k (l.getD b zL).k = true := by
  have := List.pairwise_iff_getElem.1 hs a b (by omega) hb hab
  rwa [List.getD_eq_getElem?_getD, List.getElem?_eq_getElem (by omega), List.getD_eq_getElem?_getD, List.getElem?_eq_getElem hb]
theorem Place.none (h : Place l k i) (hs : Srt l) (hne : ¬ (i < l.length ∧ (l.getD i zL).k = k)) : ∀ t, t < l.length → ¬ (l.getD t zL).k = k := fun t ht e => by
  rcases Nat.lt_or_ge t i with h1 | h1
  · have := h.lo t h1; rw [e, blt_irr] at this; cases this
  · rcases Nat.lt_or_ge i t with h2 | h2
    · have h3 := srt_lt hs h2 ht
      rw [e, h.hi i (Nat.le_refl _) (by omega)] at h3; cases h3
    · obtain rfl : t = i := by omega
      exact hne ⟨ht, e⟩
theorem Place.gt (h : Place l k i) (hs : Srt l) {j : Nat} (hj : i ≤ j) (hne : ∀ t, j ≤ t → t < l.length → ¬ (l.getD t zL).k = k) (hlo : ∀ t, t < j → t < l.length → blt k (l.getD t zL).k = false) : (l.filter fun y => blt k y.k) = l.drop j := by
  rw [← List.take_append_drop j l, List.filter_append]
  have f1 : ((l.take j).filter fun y => blt k y.k) = [] := List.filter_eq_nil_iff.2 fun z hz => by
    obtain ⟨t, h1, h2, rfl⟩ := mem_take_getD hz; rw [hlo t h1 h2]; simp
  have f2 : ((l.drop j).filter fun y => blt k y.k) = l.drop j := List.filter_eq_self.2 fun z hz => by
    obtain ⟨t, h1, h2, rfl⟩ := mem_drop_getD hz
    exact blt_tot (h.hi t (by omega) h2) (hne t h1 h2)
  rw [f1, f2, List.nil_append, List.take_append_drop]
theorem Place.put_new (h : Place l x.k i) (hs : Srt l) (hne : ¬ (i < l.length ∧ (l.getD i zL).k = x.k)) : putOf l x = l.take i ++ x :: l.drop i := by
  rw [putOf_eq x hs, h.filter_lt, h.gt hs (Nat.le_refl _) (fun t _ ht => h.none hs hne t ht) (fun t ht _ => blt_asym (h.lo t ht))]
theorem Place.drop_new (h : Place l k i) (hs : Srt l) (hne : ¬ (i < l.length ∧ (l.getD i zL).k = k)) : dropOf l k = l := by
  rw [dropOf]
  exact List.filter_eq_self.2 fun z hz => by
    obtain ⟨t, ht, rfl⟩ := mem_getD hz
    exact decide_eq_true (h.none hs hne t ht)
theorem Place.far (h : Place l k i) (hs : Srt l) (he : i < l.length ∧ (l.getD i zL).k = k) : ∀ t, i + 1 ≤ t → t < l.length → ¬ (l.getD t zL).k = k := fun t h1 h2 e => by
  have h3 := srt_lt hs (show i < t by omega) h2
  rw [e, he.2, blt_irr] at h3; cases h3
theorem Place.put_old (h : Place l x.k i) (hs : Srt l) (he : i < l.length ∧ (l.getD i zL).k = x.k) : putOf l x = l.set i x := by
  rw [putOf_eq x hs, h.filter_lt, h.gt hs (j := i + 1) (by omega) (h.far hs he) (fun t ht h2 => by
    rcases Nat.lt_or_ge t i with h1 | h1
    · exact blt_asym (h.lo t h1)
    · obtain rfl : t = i := by omega
      rw [he.2, blt_irr])]
  exact (List.set_eq_take_append_cons_drop ▸ (if_pos he.1).symm)
theorem Place.drop_old (h : Place l k i) (hs : Srt l) (he : i < l.length ∧ (l.getD i zL).k = k) : dropOf l k = l.take i ++ l.drop (i + 1) := by
  rw [dropOf, ← List.take_append_drop i l, List.filter_append]
  have f1 : ((l.take i).filter fun y => decide (¬ y.k = k)) = l.take i := List.filter_eq_self.2 fun z hz => by
    obtain ⟨t, h1, _, rfl⟩ := mem_take_getD hz; exact decide_eq_true (blt_ne (h.lo t h1))
  have e1 : l.drop i = l.getD i zL :: l.drop (i + 1) := by
    rw [List.getD_eq_getElem?_getD, List.getElem?_eq_getElem he.1]
    exact List.drop_eq_getElem_cons he.1
  have f2 : ((l.drop i).filter fun y => decide (¬ y.k = k)) = l.drop (i + 1) := by
    rw [e1, List.filter_cons_of_neg (by rw [decide_eq_false (fun h => h he.2)]; decide)]
    exact List.filter_eq_self.2 fun z hz => by
      obtain ⟨t, h1, h2, rfl⟩ := mem_drop_getD hz; exact decide_eq_true (h.far hs he t h1 h2)
  rw [f1, f2, List.take_append_drop]
end
section
variable {l : List Lf} {x y : Lf} {k : ByteArray}
theorem mem_dropOf (l : List Lf) (k : ByteArray) (y : Lf) : y ∈ dropOf l k ↔ y ∈ l ∧ ¬ y.k = k := by
  rw [dropOf, List.mem_filter]
  simp
theorem put_put (hs : Srt l) : putOf (putOf l x) x = putOf l x :=
  srt_ext ((hs.put x).put x) (hs.put x) fun z => by
    rw [mem_putOf x (hs.put x), mem_putOf x hs]
    constructor
    · rintro (h | ⟨h, _⟩)
      · exact .inl h
      · exact h
    · rintro (h | h)
      · exact .inl h
      · exact .inr ⟨.inr h, h.2⟩
theorem drop_drop (l : List Lf) (k : ByteArray) : dropOf (dropOf l k) k = dropOf l k := by
  rw [dropOf, dropOf, List.filter_filter]
  simp
theorem put_comm (hs : Srt l) (hne : ¬ x.k = y.k) : putOf (putOf l x) y = putOf (putOf l y) x :=
  srt_ext ((hs.put x).put y) ((hs.put y).put x) fun z => by
    rw [mem_putOf y (hs.put x), mem_putOf x hs, mem_putOf x (hs.put y), mem_putOf y hs]
    constructor
    · rintro (rfl | ⟨rfl | h, h2⟩)
      · exact .inr ⟨.inl rfl, fun e => hne e.symm⟩
      · exact .inl rfl
      · exact .inr ⟨.inr ⟨h.1, h2⟩, h.2⟩
    · rintro (rfl | ⟨rfl | h, h2⟩)
      · exact .inr ⟨.inl rfl, hne⟩
      · exact .inl rfl
      · exact .inr ⟨.inr ⟨h.1, h2⟩, h.2⟩
theorem drop_put (hs : Srt l) (hne : ¬ x.k = y.k) : dropOf (putOf l x) y.k = putOf (dropOf l y.k) x :=
  srt_ext ((hs.put x).drop y.k) ((hs.drop y.k).put x) fun z => by
    rw [mem_dropOf, mem_putOf x hs, mem_putOf x (hs.drop y.k), mem_dropOf]
    constructor
    · rintro ⟨rfl | h, h2⟩
      · exact .inl rfl
      · exact .inr ⟨⟨h.1, h2⟩, h.2⟩
    · rintro (rfl | ⟨h, h2⟩)
      · exact ⟨.inl rfl, hne⟩
      · exact ⟨.inr ⟨h.1, h2⟩, h.2⟩
theorem drop_comm (l : List Lf) (k j : ByteArray) : dropOf (dropOf l k) j = dropOf (dropOf l j) k := by
  rw [dropOf, dropOf, dropOf, dropOf, List.filter_filter, List.filter_filter]
  congr 1
  funext z
  exact Bool.and_comm _ _
theorem valid_srt (hs : Srt l) : validB l = true := by
  rw [validB, List.all_eq_true]
  intro i hi
  rw [List.mem_range] at hi
  exact srt_lt hs (by omega) (by omega)
end
end Go.Proofs.YtanabbjakacgbaaDoor.Sp

