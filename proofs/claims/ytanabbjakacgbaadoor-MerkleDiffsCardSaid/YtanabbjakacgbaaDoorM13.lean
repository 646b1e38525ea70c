/- Put together by this session's program out of: Pb Pc Sl. -/
import Derived.Test.YtanabbjakacgbaaDoorM11
import Derived.Test.YtanabbjakacgbaaDoorM12
namespace Go.Proofs.YtanabbjakacgbaaDoor.Sp
open Go.RowKit Go.Proofs.YtanabbjakacgbaaDoorW.PrintWords Go.Proofs.YtanabbjakacgbaaDoorW.PrintLast Go.Proofs.YtanabbjakacgbaaDoorW.PrintMore Go.Proofs.YtanabbjakacgbaaDoor.PM
set_option linter.unusedVariables false
set_option linter.unusedSimpArgs false
theorem bit_byte : ∀ v : Fin 256, ∀ u : Fin 256, (∀ j : Fin 8, bits BinOp.and IntKind.i64 (wrap64 (((v.val : Nat) : Int) / 2 ^ (7 - j.val))) 1 = bits BinOp.and IntKind.i64 (wrap64 (((u.val : Nat) : Int) / 2 ^ (7 - j.val))) 1) → v = u := by
  have h : ∀ v : Fin 256, ∀ j : Fin 8, bits BinOp.and IntKind.i64 (wrap64 (((v.val : Nat) : Int) / 2 ^ (7 - j.val))) 1 = ((v.val / 2 ^ (7 - j.val) % 2 : Nat) : Int) := by decide +kernel
  intro v u e
  have e2 : ∀ j : Fin 8, v.val / 2 ^ (7 - j.val) % 2 = u.val / 2 ^ (7 - j.val) % 2 := fun j => by have := e j; rw [h, h] at this; omega
  have a0 := e2 0; have a1 := e2 1; have a2 := e2 2; have a3 := e2 3; have a4 := e2 4; have a5 := e2 5; have a6 := e2 6; have a7 := e2 7
  simp only [Fin.isValue, Fin.val_zero, Fin.val_one, Fin.val_two, Nat.sub_zero, show ((3 : Fin 8).val) = 3 from rfl, show ((4 : Fin 8).val) = 4 from rfl, show ((5 : Fin 8).val) = 5 from rfl, show ((6 : Fin 8).val) = 6 from rfl, show ((7 : Fin 8).val) = 7 from rfl, Nat.reduceSub, Nat.reducePow] at a0 a1 a2 a3 a4 a5 a6 a7
  have := v.isLt; have := u.isLt
  apply Fin.ext
  omega
theorem bits_one {a b : Sm} (h : ∀ i, i < 256 → bitI a i = bitI b i) : a = b := by
  obtain ⟨a, ha, oa⟩ := a
  obtain ⟨b, hb, ob⟩ := b
  have e : a = b := by
    apply List.ext_getElem (by rw [ha, hb])
    intro q h1 h2
    have ra := oa a[q] (List.getElem_mem _)
    have rb := ob b[q] (List.getElem_mem _)
    have := bit_byte ⟨a[q].toNat, by omega⟩ ⟨b[q].toNat, by omega⟩ (fun j => by
      have hj := h (8 * q + j.val) (by have := j.isLt; omega)
      simp only [bitI] at hj
      rw [show (8 * q + j.val) / 8 = q by have := j.isLt; omega, show (8 * q + j.val) % 8 = j.val by have := j.isLt; omega, List.getElem?_eq_getElem h1, List.getElem?_eq_getElem h2] at hj
      simp only [Option.getD_some] at hj
      rw [show ((a[q].toNat : Nat) : Int) = a[q] by omega, show ((b[q].toNat : Nat) : Int) = b[q] by omega]
      exact hj)
    have := congrArg Fin.val this
    simp only at this
    omega
  subst e
  rfl
theorem bl_irr : ∀ a : List UInt8, Op.bytesLess a a = false
  | [] => rfl
  | x :: a => by rw [Op.bytesLess]; simp [UInt8.lt_irrefl, bl_irr a]
theorem bl_trans : ∀ a b c : List UInt8, Op.bytesLess a b = true → Op.bytesLess b c = true → Op.bytesLess a c = true
  | [], [], c, h1, h2 => by simp [Op.bytesLess] at h1
  | [], _ :: _, [], h1, h2 => by simp [Op.bytesLess] at h2
  | [], _ :: _, _ :: _, h1, h2 => rfl
  | _ :: _, [], _, h1, h2 => by simp [Op.bytesLess] at h1
  | _ :: _, _ :: _, [], h1, h2 => by simp [Op.bytesLess] at h2
  | x :: a, y :: b, z :: c, h1, h2 => by
    have ih := bl_trans a b c
    simp only [Op.bytesLess, Bool.or_eq_true, Bool.and_eq_true, decide_eq_true_eq, beq_iff_eq] at h1 h2 ⊢
    rcases h1 with h1 | ⟨rfl, h1⟩
    · rcases h2 with h2 | ⟨rfl, h2⟩
      · exact .inl (UInt8.lt_trans h1 h2)
      · exact .inl h1
    · rcases h2 with h2 | ⟨rfl, h2⟩
      · exact .inl h2
      · exact .inr ⟨rfl, ih h1 h2⟩
theorem blt_irr (a : ByteArray) : blt a a = false := bl_irr _
theorem blt_trans {a b c : ByteArray} (h1 : blt a b = true) (h2 : blt b c = true) : blt a c = true := bl_trans _ _ _ h1 h2
theorem blt_ne {a b : ByteArray} (h : blt a b = true) : ¬ a = b := fun e => by rw [e, blt_irr] at h; cases h
theorem blt_asym {a b : ByteArray} (h : blt a b = true) : blt b a = false := by
  by_cases hb : blt b a = true
  · have := blt_trans h hb; rw [blt_irr] at this; cases this
  · simpa using hb
theorem blt_tot {a b : ByteArray} (h : blt a b = false) (hne : ¬ a = b) : blt b a = true := by
  have := bl_tri a.toList b.toList
  rw [show Op.bytesLess a.toList b.toList = false from h, Bool.false_or] at this
  by_cases hb : blt b a = true
  · exact hb
  · rw [show Op.bytesLess b.toList a.toList = false by simpa [blt] using hb] at this
    exact absurd (toList_inj.1 (by simpa using this)) hne
def Srt (l : List Lf) : Prop := l.Pairwise fun a b => blt a.k b.k = true
theorem Srt.one {l : List Lf} (h : Srt l) : ∀ {x y : Lf}, x ∈ l → y ∈ l → x.k = y.k → x = y := by
  induction l with
  | nil => intro x y hx; cases hx
  | cons z l ih =>
    intro x y hx hy e
    have h2 := List.pairwise_cons.1 h
    rcases List.mem_cons.1 hx with hx1 | hx1
    · rcases List.mem_cons.1 hy with hy1 | hy1
      · rw [hx1, hy1]
      · have := h2.1 _ hy1; rw [← e, hx1, blt_irr] at this; cases this
    · rcases List.mem_cons.1 hy with hy1 | hy1
      · have := h2.1 _ hx1; rw [e, hy1, blt_irr] at this; cases this
      · exact ih h2.2 hx1 hy1 e
theorem step_after (x y : Lf) (acc : List Lf) : putStep x (acc, true) y = if y.k = x.k then (acc, true) else (acc ++ [y], true) := by simp [putStep]
theorem step_lt {x y : Lf} (h : blt y.k x.k = true) (acc : List Lf) : putStep x (acc, false) y = (acc ++ [y], false) := by simp [putStep, h, blt_ne h]
theorem step_ge {x y : Lf} (h : blt y.k x.k = false) (acc : List Lf) : putStep x (acc, false) y = if y.k = x.k then (acc ++ [x], true) else (acc ++ [x] ++ [y], true) := by simp [putStep, h]
theorem put_after (x : Lf) : ∀ (l : List Lf) (acc : List Lf), l.foldl (putStep x) (acc, true) = (acc ++ l.filter fun y => decide (¬ y.k = x.k), true)
  | [], acc => by simp
  | y :: l, acc => by
    rw [List.foldl_cons, step_after]
    by_cases h : y.k = x.k
    · rw [if_pos h, put_after x l, List.filter_cons_of_neg (by simp [h])]
    · rw [if_neg h, put_after x l, List.filter_cons_of_pos (by simp [h]), List.append_assoc]
      rfl
theorem put_fold (x : Lf) : ∀ (l : List Lf) (acc : List Lf), Srt l → l.foldl (putStep x) (acc, false) = if (∀ y ∈ l, blt y.k x.k = true) then (acc ++ l, false) else (acc ++ (l.filter fun y => blt y.k x.k) ++ x :: l.filter (fun y => blt x.k y.k), true)
  | [], acc, h => by simp
  | y :: l, acc, h => by
    have h2 := List.pairwise_cons.1 h
    rw [List.foldl_cons]
    by_cases hy : blt y.k x.k = true
    · rw [step_lt hy, put_fold x l _ h2.2, List.filter_cons_of_pos (by simpa using hy), List.filter_cons_of_neg (by rw [blt_asym hy]; simp)]
      by_cases ha : ∀ z ∈ l, blt z.k x.k = true
      · rw [if_pos ha, if_pos (fun z hz => (List.mem_cons.1 hz).elim (fun e => e ▸ hy) (ha z)), List.append_assoc]; rfl
      · rw [if_neg ha, if_neg (fun hb => ha fun z hz => hb z (List.mem_cons_of_mem _ hz))]
        simp only [List.append_assoc, List.singleton_append, List.cons_append, List.nil_append]
    · have hyf : blt y.k x.k = false := by simpa using hy
      have hgt : ∀ z ∈ l, blt x.k z.k = true := fun z hz => by
        by_cases e : y.k = x.k
        · rw [← e]; exact h2.1 z hz
        · exact blt_trans (blt_tot hyf e) (h2.1 z hz)
      have f1 : (l.filter fun z => blt z.k x.k) = [] := List.filter_eq_nil_iff.2 fun z hz => by rw [blt_asym (hgt z hz)]; simp
      have f2 : (l.filter fun z => blt x.k z.k) = l := List.filter_eq_self.2 fun z hz => hgt z hz
      have f3 : (l.filter fun z => decide (¬ z.k = x.k)) = l := List.filter_eq_self.2 fun z hz => decide_eq_true (fun e => blt_ne (hgt z hz) e.symm)
      rw [if_neg (fun hb => hy (hb y List.mem_cons_self)), List.filter_cons_of_neg (by rw [hyf]; simp), f1, List.append_nil]
      by_cases e : y.k = x.k
      · rw [step_ge hyf, if_pos e, put_after, List.filter_cons_of_neg (by rw [e, blt_irr]; simp), f2, f3, List.append_assoc]; rfl
      · rw [step_ge hyf, if_neg e, put_after, List.filter_cons_of_pos (by simpa using blt_tot hyf e), f2, f3]
        simp only [List.append_assoc, List.singleton_append, List.cons_append, List.nil_append]
theorem putOf_eq (x : Lf) {l : List Lf} (h : Srt l) : putOf l x = (l.filter fun y => blt y.k x.k) ++ x :: l.filter (fun y => blt x.k y.k) := by
  rw [putOf, putGo, put_fold x l [] h]
  by_cases ha : ∀ z ∈ l, blt z.k x.k = true
  · rw [if_pos ha, if_neg (by simp)]
    have f1 : (l.filter fun z => blt z.k x.k) = l := List.filter_eq_self.2 fun z hz => ha z hz
    have f2 : (l.filter fun z => blt x.k z.k) = [] := List.filter_eq_nil_iff.2 fun z hz => by rw [blt_asym (ha z hz)]; simp
    rw [f1, f2, List.nil_append]
  · rw [if_neg ha, if_pos rfl, List.nil_append]
theorem mem_putOf (x : Lf) {l : List Lf} (h : Srt l) (y : Lf) : y ∈ putOf l x ↔ y = x ∨ (y ∈ l ∧ ¬ y.k = x.k) := by
  rw [putOf_eq x h, List.mem_append, List.mem_cons, List.mem_filter, List.mem_filter]
  constructor
  · rintro (⟨h1, h2⟩ | rfl | ⟨h1, h2⟩)
    · exact .inr ⟨h1, blt_ne h2⟩
    · exact .inl rfl
    · exact .inr ⟨h1, fun e => blt_ne h2 e.symm⟩
  · rintro (rfl | ⟨h1, h2⟩)
    · exact .inr (.inl rfl)
    · by_cases hb : blt y.k x.k = true
      · exact .inl ⟨h1, hb⟩
      · exact .inr (.inr ⟨h1, blt_tot (by simpa using hb) h2⟩)
theorem Srt.put (x : Lf) {l : List Lf} (h : Srt l) : Srt (putOf l x) := by
  rw [putOf_eq x h, Srt, List.pairwise_append]
  refine ⟨h.filter _, List.pairwise_cons.2 ⟨fun z hz => (List.mem_filter.1 hz).2, h.filter _⟩, fun a ha b hb => ?_⟩
  have h1 := (List.mem_filter.1 ha).2
  rcases List.mem_cons.1 hb with rfl | hb
  · exact h1
  · exact blt_trans h1 (List.mem_filter.1 hb).2
theorem Srt.made (a : List (Int × Int)) : Srt (madeOf a) := by
  have : ∀ (a : List (Int × Int)) (l : List Lf), Srt l → Srt (a.foldl (fun l p => putOf l (lfOf p)) l) := by
    intro a
    induction a with
    | nil => exact fun l h => h
    | cons p a ih => exact fun l h => ih _ (h.put _)
  exact this a [] List.Pairwise.nil
theorem made_mem (a : List (Int × Int)) : ∀ y ∈ madeOf a, ∃ p ∈ a, y = lfOf p := by
  have : ∀ (a : List (Int × Int)) (l : List Lf), Srt l → ∀ y ∈ a.foldl (fun l p => putOf l (lfOf p)) l, y ∈ l ∨ ∃ p ∈ a, y = lfOf p := by
    intro a
    induction a with
    | nil => exact fun l h y hy => .inl hy
    | cons p a ih =>
      intro l h y hy
      rcases ih _ (h.put _) y hy with h1 | ⟨q, h1, h2⟩
      · rcases (mem_putOf _ h y).1 h1 with rfl | h1
        · exact .inr ⟨p, List.mem_cons_self, rfl⟩
        · exact .inl h1.1
      · exact .inr ⟨q, List.mem_cons_of_mem _ h1, h2⟩
  intro y hy
  rcases this a [] List.Pairwise.nil y hy with h | h
  · cases h
  · exact h
def rootOf (l : List Lf) : Sm := hashOf (itemsOf l) 0
theorem path_len (l : List Lf) (k : ByteArray) : (proveOf l k).p.length ≤ 256 := by
  have h : (proveOf l k).p = (wayOf (itemsOf l) (hk k)).1 := by rw [proveOf]; split <;> rfl
  rw [h]
  exact way_len _ _ _ _
theorem way_end_mem {l : List Lf} {k : ByteArray} {z : It} (h : z ∈ (wayOf (itemsOf l) (hk k)).2) : z.x ∈ l ∧ z = itemOf z.x := by
  have h1 := way_mem _ _ _ _ _ h
  rw [itemsOf, List.mem_map] at h1
  obtain ⟨x, h1, rfl⟩ := h1
  exact ⟨h1, rfl⟩
theorem prove_ck (l : List Lf) (k : ByteArray) : ∃ v b, ckOf (rootOf l) k (proveOf l k).p (proveOf l k).e (proveOf l k).l = ⟨v, b, true⟩ ∧ (b = decide ((proveOf l k).e = 1)) ∧ (b = true → (proveOf l k).l ∈ l ∧ (proveOf l k).l.k = k ∧ v = (proveOf l k).l.v) ∧ (b = false → v = zS) := by
  have hup : hashOf (itemsOf l) 0 = upL (hk k) (wayOf (itemsOf l) (hk k)).1 0 (endH (wayOf (itemsOf l) (hk k)).2) := way_up (hk k) 256 0 (itemsOf l) rfl (by omega)
  have hlen : (wayOf (itemsOf l) (hk k)).1.length ≤ 256 := way_len (hk k) 256 0 (itemsOf l)
  by_cases h0 : (wayOf (itemsOf l) (hk k)).2.length = 0
  · have hp : proveOf l k = ⟨(wayOf (itemsOf l) (hk k)).1, 0, zL⟩ := by rw [proveOf, if_pos h0]
    refine ⟨zS, false, ?_, by rw [hp]; rfl, fun h => (by cases h), fun _ => rfl⟩
    rw [hp]
    have hr : rightB k (wayOf (itemsOf l) (hk k)).1.length 0 zL = true := by
      rw [rightB, Bool.and_eq_true]; exact ⟨decide_eq_true hlen, by simp⟩
    have ht : topOf k (wayOf (itemsOf l) (hk k)).1 0 zL = rootOf l := by
      rw [topOf, if_pos rfl, rootOf, hup, endH, if_pos h0]
    simp only [ckOf, checkB, hr, ht]
    simp
  · have hz : (wayOf (itemsOf l) (hk k)).2.getD 0 zI ∈ (wayOf (itemsOf l) (hk k)).2 := getD_mem' (by omega)
    obtain ⟨hz1, hz2⟩ := way_end_mem hz
    obtain ⟨z, hzz⟩ : ∃ z, (wayOf (itemsOf l) (hk k)).2.getD 0 zI = z := ⟨_, rfl⟩
    have hp : proveOf l k = ⟨(wayOf (itemsOf l) (hk k)).1, if z.x.k = k then 1 else 2, z.x⟩ := by rw [proveOf, if_neg h0, hzz]
    rw [hzz] at hz1 hz2 hz
    have hu : upL (hk k) (wayOf (itemsOf l) (hk k)).1 0 (leafH z.x) = rootOf l := by
      rw [rootOf, hup, endH, if_neg h0, ← hzz]
    by_cases he : z.x.k = k
    · rw [if_pos he] at hp
      refine ⟨z.x.v, true, ?_, by rw [hp]; rfl, fun _ => (by rw [hp]; exact ⟨hz1, he, rfl⟩), fun h => (by cases h)⟩
      rw [hp]
      have hr : rightB k (wayOf (itemsOf l) (hk k)).1.length 1 z.x = true := by
        rw [rightB, Bool.and_eq_true]; exact ⟨decide_eq_true hlen, by simp [he]⟩
      have ht : topOf k (wayOf (itemsOf l) (hk k)).1 1 z.x = rootOf l := by rw [topOf, if_neg (by decide), hu]
      simp only [ckOf, checkB, hr, ht]
      simp
    · rw [if_neg he] at hp
      refine ⟨zS, false, ?_, by rw [hp]; rfl, fun h => (by cases h), fun _ => rfl⟩
      rw [hp]
      have ha : agree (hk k) (hk z.x.k) (wayOf (itemsOf l) (hk k)).1.length = true := agree_t fun i hi => by
        have := way_bits (hk k) 256 0 (itemsOf l) z hz i (by omega) (by have h : i < (wayF 256 (itemsOf l) (hk k) 0).1.length := hi; omega)
        rw [hz2] at this
        exact this.symm
      have hr : rightB k (wayOf (itemsOf l) (hk k)).1.length 2 z.x = true := by
        rw [rightB, Bool.and_eq_true]; exact ⟨decide_eq_true hlen, by simp [he, ha]⟩
      have ht : topOf k (wayOf (itemsOf l) (hk k)).1 2 z.x = rootOf l := by rw [topOf, if_neg (by decide), hu]
      simp only [ckOf, checkB, hr, ht]
      simp
def Apart (l : List Lf) : Prop := ∀ x ∈ l, ∀ y ∈ l, hk x.k = hk y.k → x = y
theorem prove_mem {l : List Lf} (h : Apart l) {x : Lf} (hx : x ∈ l) : (proveOf l x.k).e = 1 ∧ (proveOf l x.k).l = x := by
  have hin : itemOf x ∈ (wayOf (itemsOf l) (hk x.k)).2 := way_in (hk x.k) 256 0 (itemsOf l) (itemOf x) (List.mem_map.2 ⟨x, hx, rfl⟩) rfl
  have h0 : ¬ (wayOf (itemsOf l) (hk x.k)).2.length = 0 := fun e => by rw [List.length_eq_zero_iff] at e; rw [e] at hin; cases hin
  have hz : (wayOf (itemsOf l) (hk x.k)).2.getD 0 zI ∈ (wayOf (itemsOf l) (hk x.k)).2 := getD_mem' (by omega)
  obtain ⟨hz1, hz2⟩ := way_end_mem hz
  obtain ⟨z, hzz⟩ : ∃ z, (wayOf (itemsOf l) (hk x.k)).2.getD 0 zI = z := ⟨_, rfl⟩
  rw [hzz] at hz hz1 hz2
  have hzx : z.x = x := by
    rcases way_short (hk x.k) 256 0 (itemsOf l) rfl with h1 | h1
    · have h1' : (wayOf (itemsOf l) (hk x.k)).2.length ≤ 1 := h1
      obtain ⟨u, hu⟩ := List.length_eq_one_iff.1 (show (wayOf (itemsOf l) (hk x.k)).2.length = 1 by omega)
      rw [hu, List.mem_singleton] at hz hin
      rw [hz, ← hin]; rfl
    · refine h _ hz1 _ hx (bits_one fun i hi => ?_)
      have := way_bits (hk x.k) 256 0 (itemsOf l) z hz i (by omega) (by rw [h1]; omega)
      rw [hz2] at this
      exact this
  have hp : proveOf l x.k = ⟨(wayOf (itemsOf l) (hk x.k)).1, if z.x.k = x.k then 1 else 2, z.x⟩ := by rw [proveOf, if_neg h0, hzz]
  rw [hp, hzx, if_pos rfl]
  exact ⟨rfl, rfl⟩
theorem prove_mem_ck {l : List Lf} (h : Apart l) {x : Lf} (hx : x ∈ l) : ckOf (rootOf l) x.k (proveOf l x.k).p (proveOf l x.k).e (proveOf l x.k).l = ⟨x.v, true, true⟩ := by
  obtain ⟨he, hl⟩ := prove_mem h hx
  obtain ⟨v, b, h1, h2, h3, h4⟩ := prove_ck l x.k
  rw [he, decide_eq_true rfl] at h2
  have := (h3 h2).2.2
  rw [hl] at this
  rw [h1, this, h2]
theorem keys_apart : ∀ i : Fin 24, ∀ j : Fin 24, (hk (keyB i.val)).b = (hk (keyB j.val)).b → i = j := by
  have hb : ∀ i : Fin 24, (hk (keyB i.val)).b = sumL [107, 101, 121, 97 + (i.val : Int)] := by
    intro i
    have : bytesOf (keyB i.val) = [107, 101, 121, 97 + (i.val : Int)] := by revert i; decide
    rw [hk, this, H_b]
  intro i j e
  rw [hb, hb] at e
  exact key_ne i j (by rw [key_all, key_all, e])
theorem apart_made (a : List (Int × Int)) (ha : Oct a) : Apart (madeOf a) := by
  intro x hx y hy e
  refine (Srt.made a).one hx hy ?_
  obtain ⟨p, hp, rfl⟩ := made_mem a x hx
  obtain ⟨q, hq, rfl⟩ := made_mem a y hy
  have key : ∀ n : Int, 0 ≤ n → keyB n = keyB (((n % 24).toNat : Nat) : Int) := fun n hn => by
    rw [keyB, keyB, show (((n % 24).toNat : Nat) : Int) % 24 = n % 24 by omega]
  have h1 := key p.1 (ha p hp).1.1
  have h2 := key q.1 (ha q hq).1.1
  have h3 := keys_apart ⟨(p.1 % 24).toNat, by omega⟩ ⟨(q.1 % 24).toNat, by omega⟩ (by
    have e2 : hk (keyB p.1) = hk (keyB q.1) := e
    rw [h1, h2] at e2
    exact congrArg Sm.b e2)
  have h4 := congrArg Fin.val h3
  simp only at h4
  show keyB p.1 = keyB q.1
  rw [h1, h2, h4]
end Go.Proofs.YtanabbjakacgbaaDoor.Sp
namespace Go.Proofs.YtanabbjakacgbaaDoor.Sp
open Go.RowKit Go.Proofs.YtanabbjakacgbaaDoorW.PrintWords Go.Proofs.YtanabbjakacgbaaDoorW.PrintLast Go.Proofs.YtanabbjakacgbaaDoorW.PrintMore Go.Proofs.YtanabbjakacgbaaDoor.PM
set_option linter.unusedVariables false
set_option linter.unusedSimpArgs false
theorem ck_refused {k : ByteArray} {p : List Sm} {e : Int} {l : Lf} (h : rightB k p.length e l = false) (root : Sm) : ckOf root k p e l = zK := by
  rw [ckOf, checkB, if_pos h]; rfl
theorem right_long {n : Nat} (h : 256 < n) (k : ByteArray) (e : Int) (l : Lf) : rightB k n e l = false := by
  rw [rightB, show decide (n ≤ 256) = false by simpa using h, Bool.false_and]
theorem right_end {e : Int} (h0 : ¬ e = 0) (h1 : ¬ e = 1) (h2 : ¬ e = 2) (k : ByteArray) (n : Nat) (l : Lf) : rightB k n e l = false := by
  rw [rightB, if_neg h0, if_neg h1]; simp [h2]
theorem right_leaf {l : Lf} (h : ¬ l = zL) (k : ByteArray) (n : Nat) : rightB k n 0 l = false := by
  rw [rightB, if_pos rfl]; simp [h]
theorem right_other {l : Lf} {k : ByteArray} (h : ¬ l.k = k) (n : Nat) : rightB k n 1 l = false := by
  rw [rightB, if_neg (by decide), if_pos rfl]; simp [h]
theorem itemsOf_half (l : List Lf) (d : Nat) (b : Int) : itemsOf (halfL l d b) = halfOf (itemsOf l) d b := by
  rw [halfL, itemsOf, List.map_map]
  conv => rhs; rw [← List.map_id (halfOf (itemsOf l) d b)]
  apply List.map_congr_left
  intro y hy
  have := (List.mem_filter.1 hy).1
  rw [itemsOf, List.mem_map] at this
  obtain ⟨x, _, rfl⟩ := this
  rfl
theorem halves_len (l : List It) (d : Nat) : (halfOf l d 0).length + (halfOf l d 1).length = l.length := by
  induction l with
  | nil => rfl
  | cons y l ih =>
    rw [halfOf, halfOf] at ih ⊢
    rcases bitI_01 y.s d with h | h
    · rw [List.filter_cons_of_pos (by simp [h]), List.filter_cons_of_neg (by simp [h]), List.length_cons, List.length_cons]; omega
    · rw [List.filter_cons_of_neg (by simp [h]), List.filter_cons_of_pos (by simp [h]), List.length_cons, List.length_cons]; omega
theorem halfL_len (l : List Lf) (d : Nat) : (halfL l d 0).length + (halfL l d 1).length = l.length := by
  rw [halfL, halfL, List.length_map, List.length_map, halves_len, itemsOf, List.length_map]
theorem ends_two {l : List Lf} (h : 2 ≤ l.length) : endsOf (itemsOf l) 0 = false := by
  rw [endsOf, itemsOf, List.length_map]; simp; omega
theorem halves_root {l : List Lf} (h : 2 ≤ l.length) : rootOf l = nodeH (hashOf (itemsOf (halfL l 0 0)) 1) (hashOf (itemsOf (halfL l 0 1)) 1) := by
  rw [rootOf, hashOf_eq _ _ (by omega), if_neg (by rw [itemsOf, List.length_map]; omega), if_neg (by rw [ends_two h]; simp), itemsOf_half, itemsOf_half]
theorem path_head {l : List Lf} (h : 2 ≤ l.length) (k : ByteArray) : ∃ r, (proveOf l k).p = (if bitI (hk k) 0 = 1 then hashOf (itemsOf (halfL l 0 0)) 1 else hashOf (itemsOf (halfL l 0 1)) 1) :: r := by
  have hp : (proveOf l k).p = (wayOf (itemsOf l) (hk k)).1 := by rw [proveOf]; split <;> rfl
  rw [hp, wayOf, show (256 : Nat) = 256 - 0 from rfl, wayF_go (hk k) (ends_two h), itemsOf_half, itemsOf_half]
  refine ⟨(wayF (256 - (0 + 1)) (halfOf (itemsOf l) 0 (bitI (hk k) 0)) (hk k) (0 + 1)).1, ?_⟩
  rcases bitI_01 (hk k) 0 with e | e
  · rw [e, if_neg (by decide)]; rfl
  · rw [e, if_pos rfl]; rfl
end Go.Proofs.YtanabbjakacgbaaDoor.Sp
namespace Go.Proofs.YtanabbjakacgbaaDoor.Sp
open Go.RowKit Go.Proofs.YtanabbjakacgbaaDoorW.PrintWords Go.Proofs.YtanabbjakacgbaaDoorW.PrintLast Go.Proofs.YtanabbjakacgbaaDoorW.PrintMore Go.Proofs.YtanabbjakacgbaaDoor.PM
set_option linter.unusedVariables false
set_option linter.unusedSimpArgs false
set_option maxRecDepth 100000
attribute [local go_sem] Oper.semAt_some
theorem Oct.take {a : List (Int × Int)} (h : Oct a) (n : Nat) : Oct (a.take n) := fun p hp => h p (List.mem_of_mem_take hp)
theorem made_sm (a : List (Int × Int)) (N : Nat) (hN : N ≤ 12) : SmL (madeOf (a.take N)) := by
  refine ⟨?_, fun x hx => ?_⟩
  · by_cases h : N ≤ a.length
    · have := madeOf_small h hN; omega
    · rw [List.take_of_length_le (by omega), show a = a.take a.length by rw [List.take_length]]
      have := madeOf_small (n := a.length) (a := a) (Nat.le_refl _) (by omega); omega
  · obtain ⟨p, _, rfl⟩ := made_mem _ x hx
    show (keyB p.1).size ≤ 100000
    have : (keyB p.1).size = 4 := rfl
    omega
theorem Made12_calls (a : List (Int × Int)) (ha : Oct a) (A : Option Addr) (c : Nat) (w : World) (hr : kQ.C w A a.length a) (hc : a.length ≤ c) (l : List Lf) (hl : madeOf (a.take 12) = l) :
    Calls Tryd.prog 11 #[.slice A a.length c, .int .i64 12] w fun e w' => ∃ A' c', e = .returned (.slice A' l.length c') ∧ kL.R 33 w' 0 (fun _ => True) (.slice A' l.length c') l ∧ Below w.heap.size w w' := by
  have h := Made_calls a ha 12 (by decide) A c w hr hc
  rw [hl] at h
  refine h.mono ?_
  rintro e w' ⟨v, rfl, hr2, hb2⟩
  obtain ⟨A', c', rfl⟩ := Kd.R_slice hr2
  exact ⟨A', c', rfl, Kd.R_lower hr2 (Nat.zero_le _), hb2⟩
theorem RootR_calls (l : List Lf) (A : Option Addr) (c : Nat) (w : World) (hW : Words w) (hr : kL.R 33 w 0 (fun _ => True) (.slice A l.length c) l) (hl : SmL l) (r : Sm) (hq : rootOf l = r) :
    Calls Tryd.prog 12 #[.slice A l.length c] w fun e w' => e = .returned (.agg (cS r)) ∧ Below w.heap.size w w' := by
  have h := Rootm_calls l A c w hW (R_C hr).2.2 (R_C hr).2.1 hl
  rw [show hashOf (itemsOf l) 0 = r from hq] at h
  exact h
theorem ProveR_calls (l : List Lf) (k : ByteArray) (A : Option Addr) (c : Nat) (w : World) (hW : Words w) (hr : kL.R 33 w 0 (fun _ => True) (.slice A l.length c) l) (hl : SmL l) (hk1 : k.size ≤ 100000) (p : Pf) (hp : proveOf l k = p) :
    Calls Tryd.prog 14 #[.slice A l.length c, .string k] w fun e w' => ∃ A' c' C, C = cP (.slice A' p.p.length c') p.e p.l ∧ e = .returned (.agg C) ∧ kS.C w' A' p.p.length p.p ∧ Below w.heap.size w w' := by
  have h := Provem_calls l k A c w hW (R_C hr).2.2 (R_C hr).2.1 hl hk1
  rw [hp] at h
  refine h.mono ?_
  rintro e w' ⟨A', c', rfl, h1, _, h3⟩
  exact ⟨A', c', _, rfl, rfl, h1, h3⟩
theorem CheckP_calls {C : Array Value} {A : Option Addr} {c : Nat} {p : Pf} (hC : C = cP (.slice A p.p.length c) p.e p.l) (root : Sm) (k : ByteArray) (hk1 : k.size ≤ 100000) (hl1 : p.l.k.size ≤ 100000) (hlen : p.p.length ≤ 1000000) (w : World) (hW : Words w) (hr : kS.C w A p.p.length p.p) (q : Ck) (hq : ckOf root k p.p p.e p.l = q) :
    Calls Tryd.prog 13 #[.agg (cS root), .string k, .agg C] w fun r w' => r = .returned (.agg (cK q)) ∧ Below w.heap.size w w' := by
  subst hC
  have h := check_calls root k hk1 A p.p c hlen p.e p.l hl1 w hW hr
  rw [hq] at h
  exact h
theorem prove_sm {l : List Lf} (hl : SmL l) (k : ByteArray) : (proveOf l k).l.k.size ≤ 100000 := by
  rw [proveOf]
  by_cases h0 : (wayOf (itemsOf l) (hk k)).2.length = 0
  · rw [if_pos h0]; show zL.k.size ≤ 100000; decide
  · rw [if_neg h0]
    exact hl.2 _ (way_end_mem (getD_mem' (z := zI) (by omega))).1
def anyK (s : ByteArray) (l : List Lf) : Bool := l.any fun y => decide (y.k = s)
theorem anyK_succ (s : ByteArray) {l : List Lf} {n : Nat} (hn : n < l.length) : anyK s (l.take (n + 1)) = (anyK s (l.take n) || decide ((l.getD n zL).k = s)) := by
  rw [anyK, take_succ' zL hn, List.any_append, anyK]
  simp
theorem cell_K1 {w : World} {g t : Nat} {x : Ck} {fr : Nat × Nat} (hg : w.heap[g]? = some (.cells (cK x) t fr)) : w.cell? ⟨g, 32, none⟩ = some (.bool x.i) :=
  (cell_of_row w g 32 _ t fr hg).trans (by rw [cK, Array.getElem?_append_left (by rw [Array.size_append, cS_size]; simp), Array.getElem?_append_right (by rw [cS_size]; omega), cS_size]; rfl)
theorem cell_K2 {w : World} {g t : Nat} {x : Ck} {fr : Nat × Nat} (hg : w.heap[g]? = some (.cells (cK x) t fr)) : w.cell? ⟨g, 33, none⟩ = some (.bool x.o) :=
  (cell_of_row w g 33 _ t fr hg).trans (by rw [cK, Array.getElem?_append_right (by rw [Array.size_append, cS_size]; simp), Array.size_append, cS_size]; rfl)
theorem proves_key {l : List Lf} (h : Apart l) (s : ByteArray) : ∃ v, ckOf (rootOf l) s (proveOf l s).p (proveOf l s).e (proveOf l s).l = ⟨v, anyK s l, true⟩ ∧ ((proveOf l s).e = 1 ↔ anyK s l = true) := by
  obtain ⟨v, b, h1, h2, h3, _⟩ := prove_ck l s
  have hb : b = anyK s l := by
    rw [Bool.eq_iff_iff, anyK, List.any_eq_true]
    constructor
    · intro hb
      exact ⟨_, (h3 hb).1, by simpa using (h3 hb).2.1⟩
    · rintro ⟨x, hx, hxs⟩
      obtain rfl : x.k = s := by simpa using hxs
      rw [h2, (prove_mem h hx).1]; rfl
  exact ⟨v, by rw [h1, hb], by rw [← hb, h2]; simp⟩
structure PvSt (w0 : World) (A : Option Addr) (c : Nat) (l : List Lf) (g : Nat) (r : Sm) (w : World) : Prop where
  below : Below w0.heap.size w0 w
  words : Words w
  row : kL.R 33 w 0 (fun _ => True) (.slice A l.length c) l
  br : w.heap[g]? = some (.cells (cS r) 27 (0, 0))
theorem PvSt.next {w0 w w' : World} {A : Option Addr} {c g : Nat} {l : List Lf} {r : Sm} (h : PvSt w0 A c l g r w) (hb : Below w.heap.size w w') : PvSt w0 A c l g r w' :=
  ⟨h.below.trans (hb.mono h.below.size), h.words.below hb, Kd.R_below h.row hb, at_next h.br hb⟩
set_option maxHeartbeats 4000000 in
theorem proves_calls (a : List (Int × Int)) (ha : Oct a) (s : ByteArray) (A0 : Option Addr) (c0 : Nat) (w : World) (hW : Words w) (hr : kQ.C w A0 a.length a) (hc : a.length ≤ c0) :
    Calls Tryd.prog 3 #[.slice A0 a.length c0, .string s] w fun e w' => e = .returned (.bool true) ∧ Below w.heap.size w w' := by
  have HS := Aside0.mk (And.intro hr hc)
  have HW := Aside0.mk hW
  have HA := Aside0.mk ha
  obtain ⟨l, hl⟩ : ∃ l, madeOf (a.take 12) = l := ⟨_, rfl⟩
  have HL := Aside0.mk (⟨hl, by rw [← hl]; exact made_sm a 12 (by decide), by rw [← hl]; exact apart_made _ (ha.take 12)⟩ : madeOf (a.take 12) = l ∧ SmL l ∧ Apart l)
  obtain ⟨r, hr0⟩ : ∃ r, rootOf l = r := ⟨_, rfl⟩
  have HR0 := Aside0.mk hr0
  clear hr hc hW ha hl hr0
  by_cases hs : s.size ≤ 40
  · have hs1 : ¬ (40 : Int) < (s.size : Int) := by omega
    go_enter Tryd.func3, Tryd.ntmps3
    go_wp2_with (first
      | (go_at_call 10; (with_reducible refine (sanity_calls w HW.out).mono ?_); rintro e w1 ⟨rfl, hb1⟩; have H1 := Aside0.mk (⟨hb1, HW.out.below hb1, Kd.C_below HS.out.1 hb1⟩ : _ ∧ _ ∧ _); clear hb1)
      | (go_at_call 11; (with_reducible refine (Made12_calls a HA.out A0 c0 w1 H1.out.2.2 HS.out.2 l HL.out.1).mono ?_); rintro e w2 ⟨A, c, rfl, hr2, hb2⟩; have H2 := Aside0.mk (⟨below_tr H1.out.1 hb2 H1.out.1.size, H1.out.2.1.below hb2, hr2⟩ : _ ∧ _ ∧ _); clear hr2 hb2)
      | (go_at_call 12; (with_reducible refine (RootR_calls l A c w2 H2.out.2.1 H2.out.2.2 HL.out.2.1 r HR0.out).mono ?_); rintro e w3 ⟨rfl, hb3⟩; have H3 := Aside0.mk (⟨below_tr H2.out.1 hb3 H2.out.1.size, H2.out.2.1.below hb3, Kd.R_below H2.out.2.2 hb3⟩ : _ ∧ _ ∧ _); clear hb3)
      | ((with_reducible refine gate_store (t := 27) rfl ?_); (refine wpList_store_row rfl 27 (.tmp 7) (.tmp 20) rfl w3.heap.size (cS r) rfl rfl 27 (cS zS) (h_new rfl) (by rw [cS_size]; kernel_rfl) (by rw [cS_size, cS_size]) (encI_one _) ?_); generalize hwv : World.setRow _ w3.heap.size (cS r) = wv; have hv1 : wv.heap[w3.heap.size]? = some (.cells (cS r) 27 (0, 0)) := (by rw [← hwv]; exact setRow_heap _ _ _ _ _ _ (h_new rfl)); have hvb : Below w3.heap.size w3 wv := (by rw [← hwv]; exact below_setRow (below_alloc (Below.refl _ _) _) (Nat.le_refl _)); clear hwv; obtain ⟨g, hg⟩ : ∃ g, g = w3.heap.size := ⟨_, rfl⟩; rw [← hg] at hv1 ⊢; have HV : Aside0 (PvSt w A c l g r wv) := Aside0.mk ⟨below_tr H3.out.1 hvb H3.out.1.size, H3.out.2.1.below hvb, Kd.R_below H3.out.2.2 hvb, hv1⟩; clear hv1 hvb hg))
    go_loopw [8, 9] (fun b i wr => ∃ n : Nat, i = .int .i64 (n : Int) ∧ b = .bool (anyK s (l.take n)) ∧ n ≤ l.length ∧ Aside0 (PvSt w A c l g r wr)) (fun _ i _ => l.length - (intOf i).toNat)
    case atStart => exact ⟨0, rfl, rfl, by omega, HV⟩
    case round =>
      clear H1 H2 H3 HV
      have hml : l.length ≤ 100000 := HL.out.2.1.1
      obtain ⟨n, rfl, hb, hn, HR⟩ := hrel
      obtain ⟨t, ht⟩ : ∃ t, anyK s (l.take n) = t := ⟨_, rfl⟩
      rw [ht] at hb
      subst hb
      have HT := Aside0.mk ht
      clear ht
      by_cases c5 : n < l.length
      · have c5b : (n : Int) < (l.length : Int) := by omega
        have c5c := eq_true c5b
        have c5d : ((0 : Int) ≤ (n : Int)) = True := eq_true (by omega)
        obtain ⟨y, hy⟩ : ∃ y, y = l.getD n zL := ⟨_, rfl⟩
        obtain ⟨ad, eA, hat⟩ := at_flat (R_C HR.out.row).2.2 zL (n : Int) (by omega) c5b
        rw [show ((n : Int).toNat) = n by omega, ← hy] at hat
        subst eA
        have HAT := Aside0.mk hat
        have hyx : y ∈ l := by rw [hy]; exact getD_mem' c5
        obtain ⟨p, hp⟩ : ∃ p, proveOf l y.k = p := ⟨_, rfl⟩
        obtain ⟨q, hq⟩ : ∃ q : Ck, q = ⟨y.v, true, true⟩ := ⟨_, rfl⟩
        have HY := Aside0.mk (⟨hp, by rw [← hp, hq, ← HR0.out]; exact prove_mem_ck HL.out.2.2 hyx, HL.out.2.1.2 y hyx, by rw [← hp]; exact prove_sm HL.out.2.1 _, by rw [← hp]; have := path_len l y.k; omega, hq, by rw [anyK_succ s c5, HT.out, ← hy]⟩ :
          proveOf l y.k = p ∧ ckOf r y.k p.p p.e p.l = q ∧ y.k.size ≤ 100000 ∧ p.l.k.size ≤ 100000 ∧ p.p.length ≤ 1000000 ∧ q = ⟨y.v, true, true⟩ ∧ anyK s (l.take (n + 1)) = (t || decide (y.k = s)))
        clear hat hyx hp hq hy
        go_wp2
        refine start_ (n := 21) (S := fun w' => Below wr.heap.size wr w') (ds := []) #[false, false, false, false, false, false, false, false, false, false, false, false, false, false, false, false, false, false, false, false, false] (by as_aux_lemma => kernel_rfl) rfl rfl (Below.refl _ _).drew (fun hHeld => ?_)
        refine takeD_ (i := 0) (N := some 27) (v := .agg (cS r)) (a' := ?_) #[true, false, false, false, false, false, false, false, false, false, false, false, false, false, false, false, false, false, false, false, false] rfl rfl (by as_aux_lemma => kernel_rfl) (fun _ _ _ h => h) (Or.inl ⟨by rfl, fun w' hS => yield_load _ _ rfl _ rfl (ld_S (HR.out.next hS).br 0)⟩) hHeld ?_ ?_
        rotate_left
        · simp only [Act.put, List.setIfInBounds_toArray, List.set_cons_zero, List.set_cons_succ, i64_w, i32_w]
          rfl
        refine pure_ (i := 1) (N := some 28) (v := ?_) (a' := ?_) #[true, true, false, false, false, false, false, false, false, false, false, false, false, false, false, false, false, false, false, false, false] rfl rfl (by as_aux_lemma => kernel_rfl) (fun _ _ _ h => h) (Or.inl ⟨by rfl, ?_⟩) ?_ ?_
        rotate_left
        · intro w'
          go_simp
          with_reducible rfl
        rotate_left
        · simp only [Act.put, List.setIfInBounds_toArray, List.set_cons_zero, List.set_cons_succ, i64_w, i32_w]
          rfl
        refine pure_ (i := 2) (N := some 29) (v := ?_) (a' := ?_) #[true, true, true, false, false, false, false, false, false, false, false, false, false, false, false, false, false, false, false, false, false] rfl rfl (by as_aux_lemma => kernel_rfl) (fun _ _ _ h => h) (Or.inl ⟨by rfl, ?_⟩) ?_ ?_
        rotate_left
        · intro w'
          go_simp
          with_reducible rfl
        rotate_left
        · simp only [Act.put, List.setIfInBounds_toArray, List.set_cons_zero, List.set_cons_succ, i64_w, i32_w]
          rfl
        refine pure_ (i := 3) (N := some 30) (v := ?_) (a' := ?_) #[true, true, true, true, false, false, false, false, false, false, false, false, false, false, false, false, false, false, false, false, false] rfl rfl (by as_aux_lemma => kernel_rfl) (fun _ _ _ h => h) (Or.inl ⟨by rfl, ?_⟩) ?_ ?_
        rotate_left
        · intro w'
          go_simp
          with_reducible rfl
        rotate_left
        · simp only [Act.put, List.setIfInBounds_toArray, List.set_cons_zero, List.set_cons_succ, i64_w, i32_w]
          rfl
        refine pure_ (i := 4) (N := some 31) (v := ?_) (a' := ?_) #[true, true, true, true, true, false, false, false, false, false, false, false, false, false, false, false, false, false, false, false, false] rfl rfl (by as_aux_lemma => kernel_rfl) (fun _ _ _ h => h) (Or.inl ⟨by rfl, ?_⟩) ?_ ?_
        rotate_left
        · intro w'
          go_simp
          with_reducible rfl
        rotate_left
        · simp only [Act.put, List.setIfInBounds_toArray, List.set_cons_zero, List.set_cons_succ, i64_w, i32_w]
          rfl
        refine takeD_ (i := 5) (N := some 32) (v := ?_) (a' := ?_) #[true, true, true, true, true, true, false, false, false, false, false, false, false, false, false, false, false, false, false, false, false] rfl rfl (by as_aux_lemma => kernel_rfl) (fun _ _ _ h => h) (Or.inl ⟨by rfl, ?_⟩) hHeld ?_ ?_
        rotate_left
        · intro w' hS
          have hx := (hS.cell (World.block_lt_of_cell? _ _ (at_L0 HAT.out))).trans (at_L0 HAT.out)
          go_simp
          with_reducible rfl
        rotate_left
        · simp only [Act.put, List.setIfInBounds_toArray, List.set_cons_zero, List.set_cons_succ, i64_w, i32_w]
          rfl
        refine pure_ (i := 6) (N := some 33) (v := ?_) (a' := ?_) #[true, true, true, true, true, true, true, false, false, false, false, false, false, false, false, false, false, false, false, false, false] rfl rfl (by as_aux_lemma => kernel_rfl) (fun _ _ _ h => h) (Or.inl ⟨by rfl, ?_⟩) ?_ ?_
        rotate_left
        · intro w'
          go_simp
          with_reducible rfl
        rotate_left
        · simp only [Act.put, List.setIfInBounds_toArray, List.set_cons_zero, List.set_cons_succ, i64_w, i32_w]
          rfl
        refine pure_ (i := 7) (N := some 34) (v := ?_) (a' := ?_) #[true, true, true, true, true, true, true, true, false, false, false, false, false, false, false, false, false, false, false, false, false] rfl rfl (by as_aux_lemma => kernel_rfl) (fun _ _ _ h => h) (Or.inl ⟨by rfl, ?_⟩) ?_ ?_
        rotate_left
        · intro w'
          go_simp
          with_reducible rfl
        rotate_left
        · simp only [Act.put, List.setIfInBounds_toArray, List.set_cons_zero, List.set_cons_succ, i64_w, i32_w]
          rfl
        refine pure_ (i := 8) (N := some 35) (v := ?_) (a' := ?_) #[true, true, true, true, true, true, true, true, true, false, false, false, false, false, false, false, false, false, false, false, false] rfl rfl (by as_aux_lemma => kernel_rfl) (fun _ _ _ h => h) (Or.inl ⟨by rfl, ?_⟩) ?_ ?_
        rotate_left
        · intro w'
          go_simp
          with_reducible rfl
        rotate_left
        · simp only [Act.put, List.setIfInBounds_toArray, List.set_cons_zero, List.set_cons_succ, i64_w, i32_w]
          rfl
        refine pure_ (i := 9) (N := some 36) (v := ?_) (a' := ?_) #[true, true, true, true, true, true, true, true, true, true, false, false, false, false, false, false, false, false, false, false, false] rfl rfl (by as_aux_lemma => kernel_rfl) (fun _ _ _ h => h) (Or.inl ⟨by rfl, ?_⟩) ?_ ?_
        rotate_left
        · intro w'
          go_simp
          with_reducible rfl
        rotate_left
        · simp only [Act.put, List.setIfInBounds_toArray, List.set_cons_zero, List.set_cons_succ, i64_w, i32_w]
          rfl
        refine pure_ (i := 10) (N := some 37) (v := ?_) (a' := ?_) #[true, true, true, true, true, true, true, true, true, true, true, false, false, false, false, false, false, false, false, false, false] rfl rfl (by as_aux_lemma => kernel_rfl) (fun _ _ _ h => h) (Or.inl ⟨by rfl, ?_⟩) ?_ ?_
        rotate_left
        · intro w'
          go_simp
          with_reducible rfl
        rotate_left
        · simp only [Act.put, List.setIfInBounds_toArray, List.set_cons_zero, List.set_cons_succ, i64_w, i32_w]
          rfl
        refine takeD_ (i := 11) (N := some 38) (v := ?_) (a' := ?_) #[true, true, true, true, true, true, true, true, true, true, true, true, false, false, false, false, false, false, false, false, false] rfl rfl (by as_aux_lemma => kernel_rfl) (fun _ _ _ h => h) (Or.inl ⟨by rfl, ?_⟩) hHeld ?_ ?_
        rotate_left
        · intro w' hS
          have hx := (hS.cell (World.block_lt_of_cell? _ _ (at_L0 HAT.out))).trans (at_L0 HAT.out)
          go_simp
          with_reducible rfl
        rotate_left
        · simp only [Act.put, List.setIfInBounds_toArray, List.set_cons_zero, List.set_cons_succ, i64_w, i32_w]
          rfl
        refine pure_ (i := 14) (N := some 41) (v := ?_) (a' := ?_) #[true, true, true, true, true, true, true, true, true, true, true, true, false, false, true, false, false, false, false, false, false] rfl rfl (by as_aux_lemma => kernel_rfl) (fun _ _ _ h => h) (Or.inl ⟨by rfl, ?_⟩) ?_ ?_
        rotate_left
        · intro w'
          go_simp
          with_reducible rfl
        rotate_left
        · simp only [Act.put, List.setIfInBounds_toArray, List.set_cons_zero, List.set_cons_succ, i64_w, i32_w]
          rfl
        refine pure_ (i := 15) (N := some 42) (v := ?_) (a' := ?_) #[true, true, true, true, true, true, true, true, true, true, true, true, false, false, true, true, false, false, false, false, false] rfl rfl (by as_aux_lemma => kernel_rfl) (fun _ _ _ h => h) (Or.inl ⟨by rfl, ?_⟩) ?_ ?_
        rotate_left
        · intro w'
          go_simp
          with_reducible rfl
        rotate_left
        · simp only [Act.put, List.setIfInBounds_toArray, List.set_cons_zero, List.set_cons_succ, i64_w, i32_w]
          rfl
        refine pure_ (i := 16) (N := some 43) (v := ?_) (a' := ?_) #[true, true, true, true, true, true, true, true, true, true, true, true, false, false, true, true, true, false, false, false, false] rfl rfl (by as_aux_lemma => kernel_rfl) (fun _ _ _ h => h) (Or.inl ⟨by rfl, ?_⟩) ?_ ?_
        rotate_left
        · intro w'
          go_simp
          with_reducible rfl
        rotate_left
        · simp only [Act.put, List.setIfInBounds_toArray, List.set_cons_zero, List.set_cons_succ, i64_w, i32_w]
          rfl
        refine pure_ (i := 17) (N := some 44) (v := ?_) (a' := ?_) #[true, true, true, true, true, true, true, true, true, true, true, true, false, false, true, true, true, true, false, false, false] rfl rfl (by as_aux_lemma => kernel_rfl) (fun _ _ _ h => h) (Or.inl ⟨by rfl, ?_⟩) ?_ ?_
        rotate_left
        · intro w'
          go_simp
          with_reducible rfl
        rotate_left
        · simp only [Act.put, List.setIfInBounds_toArray, List.set_cons_zero, List.set_cons_succ, i64_w, i32_w]
          rfl
        refine takeD_ (i := 18) (N := some 45) (v := .agg (cS y.v)) (a' := ?_) #[true, true, true, true, true, true, true, true, true, true, true, true, false, false, true, true, true, true, true, false, false] rfl rfl (by as_aux_lemma => kernel_rfl) (fun _ _ _ h => h) (Or.inl ⟨by rfl, fun w' hS => yield_load _ _ rfl _ rfl (le_S (at_L1 HAT.out) hS 0)⟩) hHeld ?_ ?_
        rotate_left
        · simp only [Act.put, List.setIfInBounds_toArray, List.set_cons_zero, List.set_cons_succ, i64_w, i32_w]
          rfl
        refine pure_ (i := 19) (N := some 46) (v := .agg (cK q)) (a' := ?_) #[true, true, true, true, true, true, true, true, true, true, true, true, false, false, true, true, true, true, true, true, false] rfl rfl (by as_aux_lemma => kernel_rfl) (fun _ _ _ h => h) (Or.inl ⟨by rfl, fun w' => yield_built 30 _ rfl (cK q) [(0, .agg (cS y.v)), (1, .bool true), (2, .bool true)] (by simp only [List.map_toArray, List.map_cons, List.map_nil]; rfl) (by rw [HY.out.2.2.2.2.2.1]; exact built_K ⟨y.v, true, true⟩)⟩) ?_ ?_
        rotate_left
        · simp only [Act.put, List.setIfInBounds_toArray, List.set_cons_zero, List.set_cons_succ, i64_w, i32_w]
          rfl
        refine one_ (i := 12) (N := some 39) #[true, true, true, true, true, true, true, true, true, true, true, true, true, false, true, true, true, true, true, true, false] rfl rfl (by as_aux_lemma => kernel_rfl) (by decide) (fun K hK => ?_)
        refine goes_ Tryd.func14 (by kernel_rfl) rfl #[.slice (some ad) l.length c, .string y.k] (by rfl) rfl rfl (by simp only [List.map_toArray, List.map_cons, List.map_nil]; rfl) ?_
        refine (ProveR_calls l y.k (some ad) c _ (HR.out.next hHeld).words (HR.out.next hHeld).row HL.out.2.1 HY.out.2.2.1 p HY.out.1).mono ?_
        rintro e w4 ⟨A4, c4, C4, hC4, rfl, hp4, hb4⟩
        have HC4 := Aside0.mk (And.intro hC4 hp4)
        clear hC4 hp4
        refine ⟨_, rfl, ?_⟩
        refine hK.out _ _ (below_tr hHeld hb4 hHeld.size) (fun hHeld => ?_)
        clear hK K
        refine norm_ (a' := ?_) ?_ ?_
        rotate_left
        · show Act.put _ (some 39) _ = _
          simp only [Act.put, List.setIfInBounds_toArray, List.set_cons_zero, List.set_cons_succ, i64_w, i32_w]
          rfl
        refine one_ (i := 13) (N := some 40) #[true, true, true, true, true, true, true, true, true, true, true, true, true, true, true, true, true, true, true, true, false] rfl rfl (by as_aux_lemma => kernel_rfl) (by decide) (fun K hK => ?_)
        refine goes_ Tryd.func13 (by kernel_rfl) rfl #[.agg (cS r), .string y.k, .agg C4] (by rfl) rfl rfl (by simp only [List.map_toArray, List.map_cons, List.map_nil]; rfl) ?_
        refine (CheckP_calls HC4.out.1 r y.k HY.out.2.2.1 HY.out.2.2.2.1 HY.out.2.2.2.2.1 _ (HR.out.next hHeld).words HC4.out.2 q HY.out.2.1).mono ?_
        rintro e w5 ⟨rfl, hb5⟩
        refine ⟨_, rfl, ?_⟩
        refine hK.out _ _ (below_tr hHeld hb5 hHeld.size) (fun hHeld => ?_)
        clear hK K
        refine norm_ (a' := ?_) ?_ ?_
        rotate_left
        · show Act.put _ (some 40) _ = _
          simp only [Act.put, List.setIfInBounds_toArray, List.set_cons_zero, List.set_cons_succ, i64_w, i32_w]
          rfl
        refine pure_ (i := 20) (N := some 47) (v := .bool (!true)) (a' := ?_) #[true, true, true, true, true, true, true, true, true, true, true, true, true, true, true, true, true, true, true, true, true] rfl rfl (by as_aux_lemma => kernel_rfl) (fun _ _ _ h => h) (Or.inl ⟨by rfl, fun w' => yield_neq _ _ _ _ rfl _ _ rfl rfl gt_K (eqK_r w' q)⟩) ?_ ?_
        rotate_left
        · simp only [Act.put, List.setIfInBounds_toArray, List.set_cons_zero, List.set_cons_succ, i64_w, i32_w]
          rfl
        have H5 := Aside0.mk (HR.out.next hHeld)
        have hx5 := (hHeld.cell (World.block_lt_of_cell? _ _ (at_L0 HAT.out))).trans (at_L0 HAT.out)
        refine done_ (by kernel_rfl) ?_
        clear hHeld
        cases t with
        | true =>
          as_aux_lemma =>
            go_wp2
            exact ⟨⟨n + 1, by simp, by rw [HY.out.2.2.2.2.2.2]; rfl, by omega, H5⟩, by simp [intOf]; omega⟩
        | false =>
          by_cases hk1 : y.k.toList = s.toList
          · have hkb : (y.k.toList == s.toList) = true := by simp [hk1]
            as_aux_lemma =>
              go_wp2
              exact ⟨⟨n + 1, by simp, by rw [HY.out.2.2.2.2.2.2, decide_eq_true (toList_inj.1 hk1)]; rfl, by omega, H5⟩, by simp [intOf]; omega⟩
          · have hkb : (y.k.toList == s.toList) = false := by simp [hk1]
            as_aux_lemma =>
              go_wp2
              exact ⟨⟨n + 1, by simp, by rw [HY.out.2.2.2.2.2.2, decide_eq_false (fun e => hk1 (toList_inj.2 e))]; rfl, by omega, H5⟩, by simp [intOf]; omega⟩
      · obtain rfl : n = l.length := by omega
        obtain ⟨v, hv1, hv2⟩ := proves_key HL.out.2.2 s
        obtain ⟨p, hp⟩ : ∃ p, proveOf l s = p := ⟨_, rfl⟩
        have ht : anyK s l = t := by have := HT.out; rwa [List.take_length] at this
        rw [hp, HR0.out, ht] at hv1
        rw [hp, ht] at hv2
        obtain ⟨q, hq⟩ : ∃ q : Ck, q = ⟨v, t, true⟩ := ⟨_, rfl⟩
        have hpl : p.p.length ≤ 256 := by rw [← hp]; exact path_len l s
        have HY := Aside0.mk (⟨hp, by rw [hv1, hq], by rw [← hp]; exact prove_sm HL.out.2.1 _, by omega, hq⟩ :
          proveOf l s = p ∧ ckOf r s p.p p.e p.l = q ∧ p.l.k.size ≤ 100000 ∧ p.p.length ≤ 1000000 ∧ q = ⟨v, t, true⟩)
        have hsz : s.size ≤ 100000 := by omega
        obtain ⟨Z36, hz36⟩ : ∃ Z, Z = cP (.slice none 0 0) 0 zL := ⟨_, rfl⟩
        have HZ36 := Aside0.mk (And.intro (show ∀ w, (zeroValue 36).run Tryd.prog w = .ok (.agg Z36) w by rw [hz36]; exact zero36) (show Z36.size = 35 by rw [hz36]; exact cP_size _ _ _))
        have HLR := Aside0.mk ((ld_S HR.out.br) 0)
        have hleq : ((p.p.length : Int) ≤ 256) = True := eq_true (by omega)
        have hpe : (p.e == 1) = t := by
          by_cases h1 : p.e = 1
          · rw [hv2.1 h1, h1]; rfl
          · have : t = false := by
              cases t with
              | false => rfl
              | true => exact absurd (hv2.2 rfl) h1
            rw [this]; simpa using h1
        clear hz36 hv1 hv2 hp ht hq
        as_aux_lemma =>
          go_wp2_with (first
            | (go_at_call 14; (with_reducible refine (ProveR_calls l s A c wr HR.out.words HR.out.row HL.out.2.1 hsz p HY.out.1).mono ?_); rintro e w4 ⟨A4, c4, C4, hC4, rfl, hp4, hb4⟩; have HC4 := Aside0.mk (⟨hC4, hp4, HR.out.next hb4⟩ : _ ∧ _ ∧ _); clear hC4 hp4 hb4)
            | ((with_reducible refine gate_dst (N := 10) rfl ?_); (refine wpList_allocz rfl 36 Z36 rfl HZ36.out.1 ?_))
            | ((with_reducible refine gate_store (t := 36) rfl ?_); (refine wpList_store_row rfl 36 (.tmp 10) (.tmp 60) rfl w4.heap.size C4 rfl rfl 36 Z36 (h_new rfl) (by rw [HC4.out.1, cP_size]; kernel_rfl) (by rw [HC4.out.1, cP_size, HZ36.out.2]) (all_one (by rw [HC4.out.1]; exact cP_one rfl _ _)) ?_); generalize hwv : World.setRow _ w4.heap.size C4 = wy; have hy1 : wy.heap[w4.heap.size]? = some (.cells C4 36 (0, 0)) := (by rw [← hwv]; exact setRow_heap _ _ _ _ _ _ (h_new rfl)); have hyb : Below w4.heap.size w4 wy := (by rw [← hwv]; exact below_setRow (below_alloc (Below.refl _ _) _) (Nat.le_refl _)); clear hwv; obtain ⟨g4, hg4⟩ : ∃ g, g = w4.heap.size := ⟨_, rfl⟩; rw [← hg4] at hy1 ⊢; have HYY := Aside0.mk (⟨HC4.out.2.2.next hyb, hy1, Kd.C_below HC4.out.2.1 hyb⟩ : _ ∧ _ ∧ _); have hl3 : (loadVar 36 ⟨g4, 0, none⟩).run Tryd.prog wy = .ok (.agg C4) wy := (by have h := hy1; rw [HC4.out.1] at h ⊢; exact ld_P h 0); have HL3 := Aside0.mk hl3; clear hl3 hy1 hyb hg4)
            | ((with_reducible refine gate_dst (N := 61) rfl ?_); (refine wpList_loadv rfl 27 _ rfl _ rfl _ ((ld_S HYY.out.1.br) 0) ?_))
            | ((with_reducible refine gate_dst (N := 63) rfl ?_); (refine wpList_loadv rfl 36 _ rfl _ rfl _ HL3.out ?_))
            | (go_at_call 13; (with_reducible refine (CheckP_calls HC4.out.1 r s hsz HY.out.2.2.1 HY.out.2.2.2.1 wy HYY.out.1.words HYY.out.2.2 q HY.out.2.1).mono ?_); rintro e w6 ⟨rfl, hb6⟩; have H6 := Aside0.mk (⟨HYY.out.1.next hb6, at_next HYY.out.2.1 hb6⟩ : _ ∧ _); clear hb6)
            | ((with_reducible refine gate_store (t := 30) rfl ?_); (refine wpList_store_row rfl 30 (.tmp 11) (.tmp 64) rfl w6.heap.size (cK q) rfl rfl 30 (cK zK) (h_new rfl) (by rw [cK_size]; kernel_rfl) (by rw [cK_size, cK_size]) (all_one (cK_one _)) ?_); generalize hwv : World.setRow _ w6.heap.size (cK q) = wz; have hz1 : wz.heap[w6.heap.size]? = some (.cells (cK q) 30 (0, 0)) := (by rw [← hwv]; exact setRow_heap _ _ _ _ _ _ (h_new rfl)); have hzb : Below w6.heap.size w6 wz := (by rw [← hwv]; exact below_setRow (below_alloc (Below.refl _ _) _) (Nat.le_refl _)); clear hwv; have hx1 := cell_K1 hz1; have hx2 := cell_K2 hz1; rw [HY.out.2.2.2.2] at hx1 hx2; have h36 := at_next H6.out.2 hzb; rw [HC4.out.1] at h36; have hx3 := cell_P0 h36; have hx4 := cell_P1 h36; have HFIN := Aside0.mk (H6.out.1.next hzb).below; clear hz1 hzb h36))
          go_ret
          exact ⟨rfl, HFIN.out⟩
  · have hs1 : (40 : Int) < (s.size : Int) := by omega
    go_enter Tryd.func3, Tryd.ntmps3
    go_wp2_with (first
      | (go_at_call 10; (with_reducible refine (sanity_calls w HW.out).mono ?_); rintro e w1 ⟨rfl, hb1⟩; have H1 := Aside0.mk (⟨hb1, HW.out.below hb1, Kd.C_below HS.out.1 hb1⟩ : _ ∧ _ ∧ _); clear hb1)
      | (go_at_call 11; (with_reducible refine (Made12_calls a HA.out A0 c0 w1 H1.out.2.2 HS.out.2 l HL.out.1).mono ?_); rintro e w2 ⟨A, c, rfl, hr2, hb2⟩; have H2 := Aside0.mk (below_tr H1.out.1 hb2 H1.out.1.size); clear hr2 hb2))
    go_ret
    exact ⟨rfl, H2.out⟩
end Go.Proofs.YtanabbjakacgbaaDoor.Sp

