/- Put together by this session's program out of: Pd Tb Tc Td Pe Tcx Tdx Tex. -/
import Derived.Test.YtanabbjakacgbaaGreatDoorM14
import Derived.Test.YtanabbjakacgbaaGreatDoorM13
namespace Go.Proofs.YtanabbjakacgbaaGreatDoor.Sp
open Go.RowKit Go.Proofs.YtanabbjakacgbaaGreatDoorW.PrintWords Go.Proofs.YtanabbjakacgbaaGreatDoorW.PrintLast Go.Proofs.YtanabbjakacgbaaGreatDoorW.PrintMore Go.Proofs.YtanabbjakacgbaaGreatDoor.PM
set_option linter.unusedVariables false
set_option linter.unusedSimpArgs false
theorem pair_ext {α : Type} {R : α → α → Prop} (hr : ∀ a b, R a b → R b a → False) : ∀ (a b : List α), a.Pairwise R → b.Pairwise R → (∀ x, x ∈ a ↔ x ∈ b) → a = b
 | [], [], _, _, _ => rfl
 | [], y :: b, _, _, h => by have := (h y).2 List.mem_cons_self; cases this
 | x :: a, [], _, _, h => by have := (h x).1 List.mem_cons_self; cases this
 | x :: a, y :: b, ha, hb, h => by
  have ha2 := List.pairwise_cons.1 ha
  have hb2 := List.pairwise_cons.1 hb
  have e : x = y := by
   rcases List.mem_cons.1 ((h x).1 List.mem_cons_self) with e | h1
   ·exact e
   ·rcases List.mem_cons.1 ((h y).2 List.mem_cons_self) with e | h2
    ·exact e.symm
    ·exact (hr _ _ (hb2.1 _ h1) (ha2.1 _ h2)).elim
  subst e
  rw [pair_ext hr a b ha2.2 hb2.2 (fun z => ?_)]
  constructor
  ·intro hz
   rcases List.mem_cons.1 ((h z).1 (List.mem_cons_of_mem _ hz)) with rfl | h1
   ·exact (hr _ _ (ha2.1 _ hz) (ha2.1 _ hz)).elim
   ·exact h1
  ·intro hz
   rcases List.mem_cons.1 ((h z).2 (List.mem_cons_of_mem _ hz)) with rfl | h1
   ·exact (hr _ _ (hb2.1 _ hz) (hb2.1 _ hz)).elim
   ·exact h1
theorem blt_asy (a b : ByteArray) (h1 : blt a b = true) (h2 : blt b a = true) : False := by rw [blt_asym h1] at h2; cases h2
theorem put_keys (x : Lf) {l : List Lf} (h : Srt l) (k : ByteArray) : (∃ y ∈ putOf l x, y.k = k) ↔ x.k = k ∨ ∃ y ∈ l, y.k = k := by
 constructor
 ·rintro ⟨y, hy, rfl⟩
  rcases (mem_putOf x h y).1 hy with rfl | h1
  ·exact .inl rfl
  ·exact .inr ⟨y, h1.1, rfl⟩
 ·rintro (rfl | ⟨y, hy, rfl⟩)
  ·exact ⟨x, (mem_putOf x h x).2 (.inl rfl), rfl⟩
  ·by_cases e : y.k = x.k
   ·exact ⟨x, (mem_putOf x h x).2 (.inl rfl), e.symm⟩
   ·exact ⟨y, (mem_putOf x h y).2 (.inr ⟨hy, e⟩), rfl⟩
theorem dif_keys (b : List Lf) (k : ByteArray) : ∀ (l acc : List Lf), Srt acc → ((∃ y ∈ difGo b acc l, y.k = k) ↔ (∃ y ∈ acc, y.k = k) ∨ ∃ y ∈ l, y ∉ b ∧ y.k = k)
 | [], acc, h => by
  constructor
  ·exact .inl
  ·rintro (h | ⟨y, hy, _⟩)
   ·exact h
   ·cases hy
 | x :: l, acc, h => by
  have hs : difGo b acc (x :: l) = difGo b (difStep b acc x) l := rfl
  rw [hs]
  have hst : Srt (difStep b acc x) := by
   rw [difStep]
   split
   ·exact h
   ·exact h.put x
  rw [dif_keys b k l _ hst]
  have hk : (∃ y ∈ difStep b acc x, y.k = k) ↔ (∃ y ∈ acc, y.k = k) ∨ (x ∉ b ∧ x.k = k) := by
   rw [difStep]
   by_cases hx : x ∈ b
   ·rw [if_pos hx]
    constructor
    ·exact .inl
    ·rintro (h | ⟨h, _⟩)
     ·exact h
     ·exact absurd hx h
   ·rw [if_neg hx, put_keys x h]
    constructor
    ·rintro (h | h)
     ·exact .inr ⟨hx, h⟩
     ·exact .inl h
    ·rintro (h | ⟨_, h⟩)
     ·exact .inr h
     ·exact .inl h
  rw [hk]
  constructor
  ·rintro ((h | h) | ⟨y, hy, h⟩)
   ·exact .inl h
   ·exact .inr ⟨x, List.mem_cons_self, h⟩
   ·exact .inr ⟨y, List.mem_cons_of_mem _ hy, h⟩
  ·rintro (h | ⟨y, hy, h⟩)
   ·exact .inl (.inl h)
   ·rcases List.mem_cons.1 hy with rfl | hy
    ·exact .inl (.inr h)
    ·exact .inr ⟨y, hy, h⟩
theorem Srt.difLs (a b : List Lf) : Srt (difLs a b) := (Srt.dif a b _ (Srt.dif b a [] List.Pairwise.nil).1).1
theorem halfL_eq (l : List Lf) (d : Nat) (b : Int) : halfL l d b = l.filter fun x => decide (bitI (hk x.k) d = b) := by
 rw [halfL]
 induction l with
 | nil => rfl
 | cons x l ih =>
  have h : itemsOf (x :: l) = itemOf x :: itemsOf l := rfl
  rw [h, halfOf, List.filter_cons]
  by_cases hb : bitI (hk x.k) d = b
  ·rw [if_pos (show decide (bitI (itemOf x).s d = b) = true from decide_eq_true hb), List.filter_cons_of_pos (by simpa using hb), List.map_cons]
   rw [halfOf] at ih
   rw [ih]; rfl
  ·rw [if_neg (show ¬ decide (bitI (itemOf x).s d = b) = true by rw [show bitI (itemOf x).s d = bitI (hk x.k) d from rfl]; simp [hb]), List.filter_cons_of_neg (by simpa using hb)]
   rw [halfOf] at ih
   exact ih
theorem Srt.halfL {l : List Lf} (h : Srt l) (d : Nat) (b : Int) : Srt (halfL l d b) := by rw [halfL_eq]; exact h.filter _
def chStep (m : List Lf) (p : Int × Int) : List Lf := if p.2 % 4 = 0 then dropOf m (keyB p.1) else putOf m (lfOf p)
def chOf (l : List Lf) (b : List (Int × Int)) : List Lf := b.foldl chStep l
theorem Srt.drop {l : List Lf} (h : Srt l) (k : ByteArray) : Srt (dropOf l k) := by rw [dropOf]; exact h.filter _
theorem Srt.ch : ∀ (b : List (Int × Int)) (l : List Lf), Srt l → Srt (chOf l b) ∧ (chOf l b).length ≤ l.length + b.length ∧ ∀ y ∈ chOf l b, y ∈ l ∨ ∃ p ∈ b, y = lfOf p
 | [], l, h => ⟨h, Nat.le_refl _, fun y hy => .inl hy⟩
 | p :: b, l, h => by
  have e : chOf l (p :: b) = chOf (chStep l p) b := rfl
  rw [e]
  have hs : Srt (chStep l p) ∧ (chStep l p).length ≤ l.length + 1 ∧ ∀ y ∈ chStep l p, y ∈ l ∨ y = lfOf p := by
   rw [chStep]
   split
   ·exact ⟨h.drop _, by have := dropOf_len l (keyB p.1); omega, fun y hy => .inl (List.mem_filter.1 hy).1⟩
   ·exact ⟨h.put _, putOf_len' _ h, fun y hy => ((mem_putOf _ h y).1 hy).elim .inr (fun h => .inl h.1)⟩
  obtain ⟨i1, i2, i3⟩ := Srt.ch b (chStep l p) hs.1
  refine ⟨i1, by rw [List.length_cons]; omega, fun y hy => ?_⟩
  rcases i3 y hy with h1 | ⟨q, hq, h1⟩
  ·rcases hs.2.2 y h1 with h2 | h2
   ·exact .inl h2
   ·exact .inr ⟨p, List.mem_cons_self, h2⟩
  ·exact .inr ⟨q, List.mem_cons_of_mem _ hq, h1⟩
theorem made_le (a : List (Int × Int)) : (madeOf a).length ≤ a.length := by
 have : ∀ (a : List (Int × Int)) (l : List Lf), Srt l → (a.foldl (fun l p => putOf l (lfOf p)) l).length ≤ l.length + a.length := by
  intro a
  induction a with
  | nil => exact fun l h => Nat.le_refl _
  | cons p a ih =>
   intro l h
   have h1 := ih _ (h.put (lfOf p))
   have h2 := putOf_len' (lfOf p) h
   rw [List.foldl_cons, List.length_cons]; omega
 have h := this a [] List.Pairwise.nil
 simp only [List.length_nil, Nat.zero_add] at h
 exact h
end Go.Proofs.YtanabbjakacgbaaGreatDoor.Sp
namespace Go.Proofs.YtanabbjakacgbaaGreatDoor.Sp
open Go.RowKit Go.Proofs.YtanabbjakacgbaaGreatDoorW.PrintWords Go.Proofs.YtanabbjakacgbaaGreatDoorW.PrintLast Go.Proofs.YtanabbjakacgbaaGreatDoorW.PrintMore Go.Proofs.YtanabbjakacgbaaGreatDoor.PM Go.Proofs.YtanabbjakacgbaaGreatDoor.Grow
set_option linter.unusedVariables false
set_option linter.unusedSimpArgs false
set_option maxRecDepth 100000
attribute [local go_sem] Oper.semAt_some
theorem diffR_calls (l m : List Lf) (A A2 : Option Addr) (c c2 : Nat) (w : World) (hW : Words w) (hrl : kL.R 32 w 0 (fun _ => True) (.slice A l.length c) l) (hrm : kL.R 32 w 0 (fun _ => True) (.slice A2 m.length c2) m) (hl : SmL l) (hm : SmL m) (d : List ByteArray × Nat) (hd : diffOf l m = d) :
  Calls Tryz.prog 8 #[.slice A l.length c, .slice A2 m.length c2] w fun e w' => ∃ A' c' D, D = cF (.slice A' d.1.length c') d.2 false ∧ e = .returned (.agg D) ∧ Kd.string.R 9 w' 0 (fun _ => True) (.slice A' d.1.length c') d.1 ∧ Below w.heap.size w w' := by
 have h := diff_calls l m A A2 c c2 w hW (R_C hrl).2.2 (R_C hrm).2.2 (R_C hrl).2.1 (R_C hrm).2.1 hl hm
 rw [hd] at h
 refine h.mono ?_
 rintro e w' ⟨A', c', rfl, h1, h2⟩
 exact ⟨A', c', _, rfl, rfl, Kd.R_lower h1 (Nat.zero_le _), h2⟩
theorem zero33 (w : World) : (zeroValue 32).run Tryz.prog w = .ok (.agg (cL zL)) w := by
 obtain ⟨i, hi, hz⟩ := Option.map_eq_some_iff.1 infoL
 simp only [Prod.mk.injEq] at hz
 simp [zeroValue, typeInfo, hi, hz.1, go_sem]
structure WkSt (w0 : World) (A : Option Addr) (c : Nat) (l : List Lf) (v : Value) (m : List Lf) (w : World) : Prop where
 below : Below w0.heap.size w0 w
 words : Words w
 row : kL.R 32 w 0 (fun _ => True) (.slice A l.length c) l
 ch : kL.R 32 w 0 (fun _ => True) v m
theorem WkSt.next {w0 w w' : World} {A : Option Addr} {c : Nat} {l m : List Lf} {v : Value} (h : WkSt w0 A c l v m w) (hb : Below w.heap.size w w') : WkSt w0 A c l v m w' :=
 ⟨h.below.trans (hb.mono h.below.size), h.words.below hb, Kd.R_below h.row hb, Kd.R_below h.ch hb⟩
end Go.Proofs.YtanabbjakacgbaaGreatDoor.Sp
namespace Go.Proofs.YtanabbjakacgbaaGreatDoor.Sp
open Go.RowKit Go.Proofs.YtanabbjakacgbaaGreatDoorW.PrintWords Go.Proofs.YtanabbjakacgbaaGreatDoorW.PrintLast Go.Proofs.YtanabbjakacgbaaGreatDoorW.PrintMore Go.Proofs.YtanabbjakacgbaaGreatDoor.PM
set_option linter.unusedVariables false
set_option linter.unusedSimpArgs false
set_option maxRecDepth 100000
attribute [local go_sem] Oper.semAt_some
theorem built_Lk (k : ByteArray) : Tryz.prog.built 32 [(0, .string k)] = some (cL ⟨k, zS⟩) := by
 show Instr.fill (#[(0, 1), (1, 32)][·]?) (cL zL) [(0, .string k)] = _
 have e : cL zL = #[] ++ #[.string ByteArray.empty] ++ cS zS := by rw [Array.empty_append]; rfl
 rw [e, fill_mid (#[(0, 1), (1, 32)][·]?) 0 (.string k) [] #[] #[.string ByteArray.empty] (cS zS) rfl rfl]
 rw [Array.empty_append]
 rfl
section
variable {ops : Array Oper} {rest : List Oper} {o : Oper} {a : Act} {Q : Exit → Act → World → Prop} {w : World}
theorem bld_Lk (hg : o.guard = none) (x : Operand) (ho : o.op = .build 32 #[(0, x)]) (k : ByteArray) (hx : a.eval x = .string k) (h : wpList Tryz.prog ops Q rest (a.put o.dst (.agg (cL ⟨k, zS⟩))) w) : wpList Tryz.prog ops Q (o :: rest) a w := by
 refine wpList_built hg 32 _ ho (cL ⟨k, zS⟩) ?_ h
 have e : (Array.map (fun x : Nat × Operand => (x.1, a.eval x.2)) #[(0, x)]).toList = [(0, .string k)] := by simp [hx]
 rw [e]
 exact built_Lk k
end
end Go.Proofs.YtanabbjakacgbaaGreatDoor.Sp
namespace Go.Proofs.YtanabbjakacgbaaGreatDoor.Sp
open Go.RowKit Go.Proofs.YtanabbjakacgbaaGreatDoorW.PrintWords Go.Proofs.YtanabbjakacgbaaGreatDoorW.PrintLast Go.Proofs.YtanabbjakacgbaaGreatDoorW.PrintMore Go.Proofs.YtanabbjakacgbaaGreatDoor.PM
set_option linter.unusedVariables false
set_option linter.unusedSimpArgs false
set_option maxRecDepth 100000
attribute [local go_sem] Oper.semAt_some
def lvs (a : List It) : List Lf := a.map (·.x)
def hidF : Nat → List It → List It → Nat → Bool
 | 0, a, b, d => if hashOf a d = hashOf b d then decide (0 < (differOf (lvs a) (lvs b)).length) else false
 | k + 1, a, b, d => if hashOf a d = hashOf b d then decide (0 < (differOf (lvs a) (lvs b)).length) else if endsOf a d = true ∨ endsOf b d = true then false else
   (hidF k (halfOf a d 0) (halfOf b d 0) (d + 1) || hidF k (halfOf a d 1) (halfOf b d 1) (d + 1))
theorem hidF_same {k d : Nat} {a b : List It} (h : hashOf a d = hashOf b d) : hidF k a b d = decide (0 < (differOf (lvs a) (lvs b)).length) := by
 cases k with
 | zero => rw [hidF, if_pos h]
 | succ k => rw [hidF, if_pos h]
theorem hidF_end {k d : Nat} {a b : List It} (h : ¬ hashOf a d = hashOf b d) (he : endsOf a d = true ∨ endsOf b d = true) : hidF k a b d = false := by
 cases k with
 | zero => rw [hidF, if_neg h]
 | succ k => rw [hidF, if_neg h, if_pos he]
theorem hidF_go {d : Nat} {a b : List It} (h : ¬ hashOf a d = hashOf b d) (h1 : endsOf a d = false) (h2 : endsOf b d = false) : hidF (256 - d) a b d = (hidF (256 - (d + 1)) (halfOf a d 0) (halfOf b d 0) (d + 1) || hidF (256 - (d + 1)) (halfOf a d 1) (halfOf b d 1) (d + 1)) := by
 have hd := (ends_lt h1).1
 rw [show 256 - d = (256 - (d + 1)) + 1 by omega, hidF, if_neg h, if_neg (by rw [h1, h2]; simp)]
theorem built_F12 (h : Bool) : Tryz.prog.built 38 [(1, .int .i64 1), (2, .bool h)] = some (cF (.slice none 0 0) 1 h) := by cases h <;> kernel_rfl
theorem built_F3 (A : Option Addr) (m c : Nat) (n : Int) (h : Bool) : Tryz.prog.built 38 [(0, .slice A m c), (1, .int .i64 n), (2, .bool h)] = some (cF (.slice A m c) n h) :=
 fill_three (#[(0, 1), (1, 1), (2, 1)][·]?) (.slice A m c) (.int .i64 n) (.bool h) #[.slice none 0 0] #[.int .i64 0] #[.bool false] rfl rfl rfl rfl rfl rfl
section
variable {ops : Array Oper} {rest : List Oper} {o : Oper} {a : Act} {Q : Exit → Act → World → Prop} {w : World}
theorem bld_F12 (hg : o.guard = none) (y : Operand) (ho : o.op = .build 38 #[(1, .const (.int .i64 1)), (2, y)]) (h : Bool) (hy : a.eval y = .bool h) (hh : wpList Tryz.prog ops Q rest (a.put o.dst (.agg (cF (.slice none 0 0) 1 h))) w) : wpList Tryz.prog ops Q (o :: rest) a w := by
 refine wpList_built hg 38 _ ho (cF (.slice none 0 0) 1 h) ?_ hh
 have e : (Array.map (fun x : Nat × Operand => (x.1, a.eval x.2)) #[(1, .const (.int .i64 1)), (2, y)]).toList = [(1, .int .i64 1), (2, .bool h)] := by
  have hc : a.eval (.const (.int .i64 1)) = .int .i64 1 := rfl
  simp [hc, hy]
 rw [e]
 exact built_F12 h
end
theorem leavesR_calls (l : List It) (m : List Lf) (hm : lvs l = m) (A : Option Addr) (c : Nat) (w : World) (hr : kI.C w A l.length l) (hc : l.length ≤ c) (hl : l.length ≤ 5000) :
  Calls Tryz.prog 58 #[.slice A l.length c] w fun e w' => ∃ A' c', e = .returned (.slice A' m.length c') ∧ kL.R 32 w' 0 (fun _ => True) (.slice A' m.length c') m ∧ Below w.heap.size w w' := by
 subst hm
 refine (leaves_calls l A c w hr hc (by omega)).mono ?_
 rintro e w' ⟨v, rfl, h1, h2⟩
 obtain ⟨A', c', rfl⟩ := Kd.R_slice h1
 exact ⟨A', c', rfl, Kd.R_lower h1 (Nat.zero_le _), h2⟩
theorem DifferK_calls (l m : List Lf) (A A2 : Option Addr) (c c2 : Nat) (w : World) (hrl : kL.R 32 w 0 (fun _ => True) (.slice A l.length c) l) (hrm : kL.R 32 w 0 (fun _ => True) (.slice A2 m.length c2) m) (hl : l.length ≤ 5000) (hm : m.length ≤ 5000) (d : List ByteArray) (hd : differOf l m = d) :
  Calls Tryz.prog 57 #[.slice A l.length c, .slice A2 m.length c2] w fun e w' => ∃ A' c', e = .returned (.slice A' d.length c') ∧ Kd.string.R 9 w' w.heap.size (fun _ => True) (.slice A' d.length c') d ∧ Below w.heap.size w w' := by
 have h := Differ_calls l m A A2 c c2 w (R_C hrl).2.2 (R_C hrm).2.2 (R_C hrl).2.1 (R_C hrm).2.1 hl hm
 rw [hd] at h
 refine h.mono ?_
 rintro e w' ⟨v, rfl, h1, h2⟩
 obtain ⟨A', c', rfl⟩ := Kd.R_slice h1
 exact ⟨A', c', rfl, h1, h2⟩
theorem dif_bound (a b : List Lf) : (differOf a b).length ≤ a.length + b.length := by
 have h1 := (Srt.dif a b _ (Srt.dif b a [] List.Pairwise.nil).1).2
 have h2 := (Srt.dif b a [] List.Pairwise.nil).2
 rw [differOf, List.length_map, difLs]
 simp only [List.length_nil] at h2
 omega
theorem R_none (w : World) (B : Nat) : Kd.string.R 9 w B (fun _ => True) (.slice none 0 0) [] := by
 refine ⟨fun _ _ => trivial, [], ?_, Reps.none _ _⟩
 exact World.ownsRow_nil (e := 9) (size := 1) w B
theorem cF_one {v : Value} {n : Int} {h : Bool} (hv : v.oneCell' = true) : (cF v n h).all (·.oneCell') = true := by
 refine all_one fun u hu => ?_
 simp [cF] at hu
 rcases hu with rfl | rfl | rfl
 ·exact hv
 ·rfl
 ·rfl
end Go.Proofs.YtanabbjakacgbaaGreatDoor.Sp
namespace Go.Proofs.YtanabbjakacgbaaGreatDoor.Sp
open Go.RowKit Go.Proofs.YtanabbjakacgbaaGreatDoorW.PrintWords Go.Proofs.YtanabbjakacgbaaGreatDoorW.PrintLast Go.Proofs.YtanabbjakacgbaaGreatDoorW.PrintMore Go.Proofs.YtanabbjakacgbaaGreatDoor.PM
set_option linter.unusedVariables false
set_option linter.unusedSimpArgs false
theorem lt_bl : ∀ a b : List UInt8, a < b ↔ Op.bytesLess a b = true
 | [], [] => by simp [Op.bytesLess]
 | [], y :: b => by simp [Op.bytesLess, List.nil_lt_cons]
 | x :: a, [] => by simp [Op.bytesLess]
 | x :: a, y :: b => by
  rw [List.cons_lt_cons_iff, lt_bl a b, Op.bytesLess]
  simp
theorem le_bl (a b : List UInt8) : a ≤ b ↔ Op.bytesLess b a = false := by
 rw [← List.not_lt, lt_bl]; simp
theorem bl_tot {a b : List UInt8} (h : Op.bytesLess a b = false) (hne : ¬ a = b) : Op.bytesLess b a = true := by
 have := bl_tri a b
 rw [h, Bool.false_or] at this
 cases hb : Op.bytesLess b a with
 | true => rfl
 | false =>
  rw [hb] at this
  exact absurd (by simpa using this) hne
theorem le_trans' {a b c : List UInt8} (h1 : Op.bytesLess b a = false) (h2 : Op.bytesLess c b = false) : Op.bytesLess c a = false := by
 cases h : Op.bytesLess c a with
 | false => rfl
 | true =>
  by_cases e : b = a
  ·rw [e, h] at h2; cases h2
  ·have h3 := bl_trans _ _ _ h (bl_tot h1 e)
   rw [h3] at h2; cases h2
theorem lt_of_le_lt {a b c : List UInt8} (h1 : Op.bytesLess b a = false) (h2 : Op.bytesLess b c = true) : Op.bytesLess a c = true := by
 by_cases e : b = a
 ·rw [← e]; exact h2
 ·exact bl_trans _ _ _ (bl_tot h1 e) h2
theorem compact_strict (l : List (List UInt8)) (h : l.Pairwise fun a b => Op.bytesLess b a = false) : ∀ m, m ≤ l.length → (Go.Lib.compactUpTo l.toArray m).Pairwise fun a b => Op.bytesLess a b = true
 | 0, _ => by simp [Go.Lib.compactUpTo]
 | m + 1, hm => by
  have hm' : m < l.length := by omega
  have e : l.toArray[m]! = l[m] := by rw [getElem!_pos l.toArray m (by simpa using hm')]; simp
  rw [Go.Lib.compactUpTo_succ, e, List.pairwise_append]
  refine ⟨compact_strict l h m (by omega), by split <;> simp, fun x hx y hy => ?_⟩
  by_cases hk : Go.Lib.keeps l.toArray m = true
  ·rw [if_pos hk] at hy
   rw [List.mem_singleton.1 hy]
   rw [compactUpTo_mem l m (by omega), List.mem_take_iff_getElem] at hx
   obtain ⟨i, hi, rfl⟩ := hx
   have hi2 : i < m := by omega
   have hp := List.pairwise_iff_getElem.1 h
   have h1 : Op.bytesLess (l[m - 1]'(by omega)) l[i] = false := by
    by_cases e2 : i = m - 1
    ·subst e2; exact bl_irr _
    ·exact hp i (m - 1) (by omega) (by omega) (by omega)
   have hne : ¬ l[m] = l[m - 1]'(by omega) := by
    intro e3
    have hk2 : m = 0 ∨ l.toArray[m]! ≠ l.toArray[m - 1]! := by simpa [Go.Lib.keeps] using hk
    rcases hk2 with h0 | h0
    ·omega
    ·rw [e, getElem!_pos l.toArray (m - 1) (by simp; omega)] at h0
     exact h0 (by simpa using e3)
   exact lt_of_le_lt h1 (bl_tot (hp (m - 1) m (by omega) (by omega) (by omega)) hne)
  ·rw [if_neg hk] at hy; cases hy
def canon (ks : List ByteArray) : List ByteArray := compOf (sortOf ks)
theorem canon_mem (ks : List ByteArray) (k : ByteArray) : k ∈ canon ks ↔ k ∈ ks := by
 rw [canon, compOf, sortOf, List.map_map, show (sBl ∘ sLb) = id from funext fun l => bl_lb l, List.map_id, List.mem_map]
 constructor
 ·rintro ⟨s, hs, rfl⟩
  rw [compact_mem, List.mem_mergeSort, List.mem_map] at hs
  obtain ⟨p, hp, rfl⟩ := hs
  rw [lb_bl]; exact hp
 ·intro hk
  exact ⟨sBl k, by rw [compact_mem, List.mem_mergeSort]; exact List.mem_map_of_mem hk, lb_bl k⟩
theorem canon_strict (ks : List ByteArray) : (canon ks).Pairwise fun a b => blt a b = true := by
 rw [canon, compOf, sortOf, List.map_map, show (sBl ∘ sLb) = id from funext fun l => bl_lb l, List.map_id, List.pairwise_map]
 have hs : ((ks.map sBl).mergeSort fun x y => decide (x ≤ y)).Pairwise fun a b => Op.bytesLess b a = false := by
  have h := List.pairwise_mergeSort (le := fun x y : List UInt8 => decide (x ≤ y))
   (fun a b c h1 h2 => by
    simp only [decide_eq_true_eq, le_bl] at h1 h2 ⊢
    exact le_trans' h1 h2)
   (fun a b => by
    simp only [Bool.or_eq_true, decide_eq_true_eq, le_bl]
    cases hb : Op.bytesLess b a with
    | false => exact .inl rfl
    | true =>
     right
     cases hc : Op.bytesLess a b with
     | false => rfl
     | true => have := bl_trans _ _ _ hb hc; rw [bl_irr] at this; cases this) (ks.map sBl)
  refine h.imp fun hab => ?_
  rw [decide_eq_true_eq, le_bl] at hab
  exact hab
 refine (compact_strict _ hs _ (Nat.le_refl _)).imp fun {a b} hab => ?_
 show Op.bytesLess (sLb a).toList (sLb b).toList = true
 rw [ByteArray.toList_eq, ByteArray.toList_eq]
 simpa [sLb] using hab
theorem mem_itemsOf {l : List Lf} {x : Lf} : itemOf x ∈ itemsOf l ↔ x ∈ l := by
 rw [itemsOf, List.mem_map]
 constructor
 ·rintro ⟨y, hy, e⟩
  have : y = x := congrArg It.x e
  rw [← this]; exact hy
 ·exact fun h => ⟨x, h, rfl⟩
theorem only_keys (a b : List Lf) (k : ByteArray) : k ∈ onlyK (itemsOf a) (itemsOf b) ↔ ∃ y ∈ a, y ∉ b ∧ y.k = k := by
 rw [onlyK, List.mem_map]
 constructor
 ·rintro ⟨z, hz, rfl⟩
  obtain ⟨h1, h2⟩ := List.mem_filter.1 hz
  have h3 := h1
  rw [itemsOf, List.mem_map] at h3
  obtain ⟨x, hx, rfl⟩ := h3
  exact ⟨x, hx, fun h => (of_decide_eq_true h2) (mem_itemsOf.2 h), rfl⟩
 ·rintro ⟨y, hy, hn, rfl⟩
  exact ⟨itemOf y, List.mem_filter.2 ⟨mem_itemsOf.2 hy, decide_eq_true (fun h => hn (mem_itemsOf.1 h))⟩, rfl⟩
theorem lvs_items (l : List Lf) : lvs (itemsOf l) = l := by
 rw [lvs, itemsOf, List.map_map]
 conv => rhs; rw [← List.map_id l]
 rfl
end Go.Proofs.YtanabbjakacgbaaGreatDoor.Sp
namespace Go.Proofs.YtanabbjakacgbaaGreatDoor.Sp
open Go.RowKit Go.Proofs.YtanabbjakacgbaaGreatDoorW.PrintWords Go.Proofs.YtanabbjakacgbaaGreatDoorW.PrintLast Go.Proofs.YtanabbjakacgbaaGreatDoorW.PrintMore Go.Proofs.YtanabbjakacgbaaGreatDoor.PM
set_option linter.unusedVariables false
set_option linter.unusedSimpArgs false
set_option maxRecDepth 100000
attribute [local go_sem] Oper.semAt_some
def LnX (w0 : World) (v : Value) (n : Nat) (K : List ByteArray) (w : World) : Prop := ∃ acc : List Lf, kL.R 32 w w0.heap.size (fun _ => True) v acc ∧ Srt acc ∧ acc.length ≤ n ∧ Below w0.heap.size w0 w ∧ ∀ k, (∃ y ∈ acc, y.k = k) ↔ k ∈ K
set_option maxHeartbeats 4000000 in
theorem sortedX_calls (a b : List ByteArray) (A Ab : Option Addr) (ca cb : Nat) (w : World) (hra : Kd.string.R 9 w 0 (fun _ => True) (.slice A a.length ca) a) (hrb : Kd.string.R 9 w 0 (fun _ => True) (.slice Ab b.length cb) b) (ha : a.length ≤ 20000) (hb : b.length ≤ 20000) :
  Calls Tryz.prog 59 #[.slice A a.length ca, .slice Ab b.length cb] w fun e w' => ∃ A' c' L, e = .returned (.slice A' (List.length L) c') ∧ Kd.string.R 9 w' w.heap.size (fun _ => True) (.slice A' L.length c') L ∧ L.length ≤ a.length + b.length ∧ (L.Pairwise fun x y => blt x y = true) ∧ (∀ k, k ∈ L ↔ k ∈ a ∨ k ∈ b) ∧ Below w.heap.size w w' := by
 have HS := Aside0.mk (And.intro hra hrb)
 clear hra hrb
 go_enter Tryz.func59, Tryz.ntmps59
 go_wp2_with (first
  | (refine bs0_L (wa := w) rfl rfl rfl w.heap.size (Below.refl _ _) (Nat.le_refl _) ?_; intro v0 w0 hr0 hb0 hs0; have H0 : Aside0 (LnX w v0 0 [] w0) := Aside0.mk ⟨[], hr0, List.Pairwise.nil, Nat.le_refl _, hb0, by simp⟩; clear hr0 hb0 hs0))
 go_loopw [5, 6] (fun v i wr => ∃ n : Nat, i = .int .i64 (n : Int) ∧ n ≤ a.length ∧ Aside0 (LnX w v n (a.take n) wr)) (fun _ i _ => a.length - (intOf i).toNat)
 case atStart => exact ⟨0, rfl, by omega, H0⟩
 case round =>
  clear H0
  obtain ⟨n, rfl, hn, HR⟩ := hrel
  obtain ⟨acc, hR⟩ := HR.out
  obtain ⟨A5, c7, e5⟩ := Kd.R_slice hR.1
  subst e5
  have HQ := Aside0.mk hR
  clear HR hR
  have hal := HQ.out.2.2.1
  by_cases c5 : n < a.length
  ·have c5b : (n : Int) < (a.length : Int) := by omega
   obtain ⟨y, hy⟩ : ∃ y, y = a.getD n ByteArray.empty := ⟨_, rfl⟩
   obtain ⟨gA, eA, hat⟩ := str_at HS.out.1 n c5
   subst eA
   rw [← hy] at hat
   have HSU := Aside0.mk (show a.take (n + 1) = a.take n ++ [y] by rw [take_succ' ByteArray.empty c5, hy])
   have c5c := eq_true c5b
   have c5d : ((0 : Int) ≤ (n : Int)) = True := eq_true (by omega)
   have hx := (HQ.out.2.2.2.1.cell (World.block_lt_of_cell? _ _ hat)).trans hat
   clear hat hy
   go_wp2_with (first
    | (refine bld_Lk rfl _ rfl y rfl ?_)
    | (go_at_call 20; (with_reducible refine (put4_calls acc ⟨y, zS⟩ A5 c7 wr (R_C HQ.out.1).2.2 (R_C HQ.out.1).2.1 (by omega)).mono ?_); rintro e w4 ⟨v4, rfl, hv4, hb4⟩; have H4 : Aside0 (LnX w v4 (n + 1) (a.take (n + 1)) w4) := Aside0.mk ⟨_, Kd.R_lower hv4 HQ.out.2.2.2.1.size, HQ.out.2.1.put _, Nat.le_trans (putOf_len' _ HQ.out.2.1) (by omega), below_tr HQ.out.2.2.2.1 hb4 HQ.out.2.2.2.1.size, (by intro k; rw [put_keys _ HQ.out.2.1, HQ.out.2.2.2.2 k, HSU.out]; simp only [List.mem_append, List.mem_singleton]; exact ⟨fun h => h.elim (fun e => .inr e.symm) (fun e => .inl e), fun h => h.elim .inr (fun e => .inl e.symm)⟩)⟩; clear hv4 hb4))
   exact ⟨⟨n + 1, by simp, by omega, H4⟩, by simp [intOf]; omega⟩
  ·obtain rfl : n = a.length := by omega
   have H0 : Aside0 (LnX w (.slice A5 acc.length c7) (a.length + 0) (a ++ b.take 0) wr) := Aside0.mk ⟨acc, HQ.out.1, HQ.out.2.1, HQ.out.2.2.1, HQ.out.2.2.2.1, fun k => by have h := HQ.out.2.2.2.2 k; rw [List.take_length] at h; rw [List.take_zero, List.append_nil]; exact h⟩
   clear HQ
   go_wp2
   go_loopw [5, 7] (fun v i wq => ∃ m : Nat, i = .int .i64 (m : Int) ∧ m ≤ b.length ∧ Aside0 (LnX w v (a.length + m) (a ++ b.take m) wq)) (fun _ i _ => b.length - (intOf i).toNat)
   case atStart => exact ⟨0, rfl, by omega, H0⟩
   case round =>
    clear H0 hal
    obtain ⟨m, rfl, hm, HR⟩ := hrel
    obtain ⟨acc, hR⟩ := HR.out
    obtain ⟨A6, c8, e6⟩ := Kd.R_slice hR.1
    subst e6
    have HQ := Aside0.mk hR
    clear HR hR
    have hal := HQ.out.2.2.1
    by_cases c6 : m < b.length
    ·have c5b : (m : Int) < (b.length : Int) := by omega
     obtain ⟨y, hy⟩ : ∃ y, y = b.getD m ByteArray.empty := ⟨_, rfl⟩
     obtain ⟨gA, eA, hat⟩ := str_at HS.out.2 m c6
     subst eA
     rw [← hy] at hat
     have HSU := Aside0.mk (show b.take (m + 1) = b.take m ++ [y] by rw [take_succ' ByteArray.empty c6, hy])
     have c5c := eq_true c5b
     have c5d : ((0 : Int) ≤ (m : Int)) = True := eq_true (by omega)
     have hx := (HQ.out.2.2.2.1.cell (World.block_lt_of_cell? _ _ hat)).trans hat
     clear hat hy
     go_wp2_with (first
      | (refine bld_Lk rfl _ rfl y rfl ?_)
      | (go_at_call 20; (with_reducible refine (put4_calls acc ⟨y, zS⟩ A6 c8 _ (R_C HQ.out.1).2.2 (R_C HQ.out.1).2.1 (by omega)).mono ?_); rintro e w4 ⟨v4, rfl, hv4, hb4⟩; have H4 : Aside0 (LnX w v4 (a.length + (m + 1)) (a ++ b.take (m + 1)) w4) := Aside0.mk ⟨_, Kd.R_lower hv4 HQ.out.2.2.2.1.size, HQ.out.2.1.put _, Nat.le_trans (putOf_len' _ HQ.out.2.1) (by omega), below_tr HQ.out.2.2.2.1 hb4 HQ.out.2.2.2.1.size, (by intro k; rw [put_keys _ HQ.out.2.1, HQ.out.2.2.2.2 k, HSU.out]; simp only [List.mem_append, List.mem_singleton]; exact ⟨fun h => h.elim (fun e => .inr (.inr e.symm)) (fun e => e.elim .inl (fun e => .inr (.inl e))), fun h => h.elim (fun e => .inr (.inl e)) (fun e => e.elim (fun e => .inr (.inr e)) (fun e => .inl e.symm))⟩)⟩; clear hv4 hb4))
     exact ⟨⟨m + 1, by simp, by omega, H4⟩, by simp [intOf]; omega⟩
    ·obtain rfl : m = b.length := by omega
     obtain ⟨L, hL⟩ : ∃ L, acc = L := ⟨_, rfl⟩
     subst hL
     have HR1 := Aside0.mk (And.intro HQ.out.1 HQ.out.2.2.2.1)
     have HK := Aside0.mk (And.intro HQ.out.2.1 HQ.out.2.2.2.2)
     obtain ⟨wr0, rfl⟩ : ∃ W, W = wr := ⟨_, rfl⟩
     clear HQ
     go_wp2_with (first
      | (refine bs0_Str (wa := wr0) rfl rfl rfl wr0.heap.size (Below.refl _ _) (Nat.le_refl _) ?_; intro v8 w8 hr8 hb8 hs8; have H8 := Aside0.mk (And.intro hr8 hb8); clear hr8 hb8 hs8))
     go_loopw [8, 9] (fun v i wz => ∃ n : Nat, i = .int .i64 (n : Int) ∧ n ≤ acc.length ∧ Aside0 (Kd.string.R 9 wz wr0.heap.size (fun _ => True) v ((acc.take n).map (·.k)) ∧ Below wr0.heap.size wr0 wz)) (fun _ i _ => acc.length - (intOf i).toNat)
     case atStart => exact ⟨0, rfl, by omega, H8⟩
     case round =>
      clear H8
      obtain ⟨n, rfl, hn, HR⟩ := hrel
      by_cases c6 : n < acc.length
      ·have c5b : (n : Int) < (acc.length : Int) := by omega
       obtain ⟨y, hy⟩ : ∃ y, y = acc.getD n zL := ⟨_, rfl⟩
       obtain ⟨ad, eA, hat⟩ := at_flat (R_C HR1.out.1).2.2 zL (n : Int) (by omega) c5b
       subst eA
       rw [show ((n : Int).toNat) = n by omega, ← hy] at hat
       have c5c := eq_true c5b
       have c5d : ((0 : Int) ≤ (n : Int)) = True := eq_true (by omega)
       have hx := (HR.out.2.cell (World.block_lt_of_cell? _ _ (at_L0 hat))).trans (at_L0 hat)
       have HSU := Aside0.mk (show (acc.take (n + 1)).map (·.k) = (acc.take n).map (·.k) ++ [y.k] by rw [take_succ' zL c6, List.map_append, ← hy]; rfl)
       have hnl : ((acc.take n).map (·.k)).length ≤ 1000000 := by rw [List.length_map, List.length_take]; omega
       clear hat hy
       go_wp2_with (first
        | (refine bs1_Str rfl _ rfl y.k rfl ?_)
        | (refine app_Str (wa := wr0) rfl (.tmp 44) (.tmp 50) rfl u8 _ y.k rfl rfl wr0.heap.size HR.out.1 HR.out.2 HR.out.2.size hnl ?_; intro v1 w1 hr1 hb1 hs1; have H1 := Aside0.mk (And.intro hr1 hb1); clear hr1 hb1 hs1))
       exact ⟨⟨n + 1, by simp, by omega, by rw [HSU.out]; exact H1⟩, by simp [intOf]; omega⟩
      ·obtain rfl : n = acc.length := by omega
       obtain ⟨A9, c9, e9⟩ := Kd.R_slice HR.out.1
       subst e9
       have H1 := HR.out
       rw [List.take_length] at H1
       have hlen : ((acc.take acc.length).map (·.k)).length = (acc.map (·.k)).length := by rw [List.take_length]
       have HQ := Aside0.mk H1
       clear H1
       go_wp2
       go_ret
       exact ⟨A9, c9, acc.map (·.k), by rw [List.length_map]; rfl, Kd.R_lower HQ.out.1 HR1.out.2.size, by rw [List.length_map]; exact hal, (List.pairwise_map (f := fun x : Lf => x.k) (R := fun x y => blt x y = true)).2 HK.out.1, fun k => by rw [List.mem_map]; have h := HK.out.2 k; rw [List.take_length, List.mem_append] at h; exact h, below_tr HR1.out.2 HQ.out.2 HR1.out.2.size⟩
end Go.Proofs.YtanabbjakacgbaaGreatDoor.Sp
namespace Go.Proofs.YtanabbjakacgbaaGreatDoor.Sp
open Go.RowKit Go.Proofs.YtanabbjakacgbaaGreatDoorW.PrintWords Go.Proofs.YtanabbjakacgbaaGreatDoorW.PrintLast Go.Proofs.YtanabbjakacgbaaGreatDoorW.PrintMore Go.Proofs.YtanabbjakacgbaaGreatDoor.PM
set_option linter.unusedVariables false
set_option linter.unusedSimpArgs false
set_option maxRecDepth 100000
attribute [local go_sem] Oper.semAt_some
def WfI (a : List It) : Prop := a = itemsOf (lvs a)
theorem WfI.of (l : List Lf) : WfI (itemsOf l) := by rw [WfI, lvs_items]
theorem WfI.half {a : List It} (h : WfI a) (d : Nat) (b : Int) : WfI (halfOf a d b) := by
 have e : halfOf a d b = itemsOf (halfL (lvs a) d b) := by rw [itemsOf_half, ← h]
 rw [e]; exact WfI.of _
def Told (L : List ByteArray) (N : Int) (KN : List ByteArray × Nat) : Prop := (L.Pairwise fun x y => blt x y = true) ∧ (∀ k, k ∈ L ↔ k ∈ KN.1) ∧ N = (KN.2 : Int)
def RdPostX (w0 : World) (n : Nat) (h : Bool) (KN : List ByteArray × Nat) (e : Ending) (w' : World) : Prop := ∃ (A' : Option Addr) (c' : Nat) (L : List ByteArray) (N : Int), e = .returned (.agg (cF (.slice A' L.length c') N h)) ∧ Kd.string.R 9 w' w0.heap.size (fun _ => True) (.slice A' L.length c') L ∧ L.length ≤ n ∧ Told L N KN ∧ Below w0.heap.size w0 w'
def RdIsX (d : Nat) : Prop := ∀ (a b : List It) (Aa Ab : Option Addr) (ca cb : Nat) (w : World), WfI a → WfI b → SmI a → SmI b → a.length ≤ 5000 → b.length ≤ 5000 → kI.C w Aa a.length a → kI.C w Ab b.length b → a.length ≤ ca → b.length ≤ cb →
 Calls Tryz.prog 33 #[.slice Aa a.length ca, .slice Ab b.length cb, .int .i64 (d : Int)] w (RdPostX w (a.length + b.length) (hidF (256 - d) a b d) (cmpF (256 - d) a b d))
theorem wr2 {n m : Nat} (h0 : n ≤ 1 + 512 * 5000) (h1 : m ≤ 1 + 512 * 5000) : wrap64 (wrap64 (1 + (n : Int)) + (m : Int)) = ((1 + n + m : Nat) : Int) := by
 have e1 : wrap64 (1 + (n : Int)) = ((1 + n : Nat) : Int) := by unfold wrap64; omega
 rw [e1]
 unfold wrap64
 omega
theorem Told.same {a b : List It} {d k : Nat} (h : hashOf a d = hashOf b d) : Told [] 1 (cmpF k a b d) := by
 have e : cmpF k a b d = ([], 1) := by cases k <;> rw [cmpF, if_pos h]
 rw [e]
 exact ⟨List.Pairwise.nil, fun k => Iff.rfl, rfl⟩
theorem mem_dif (l m : List Lf) (k : ByteArray) : k ∈ differOf l m ↔ k ∈ onlyK (itemsOf l) (itemsOf m) ++ onlyK (itemsOf m) (itemsOf l) := by
 rw [differOf, List.mem_map, difLs, dif_keys _ _ _ _ (Srt.dif m l [] List.Pairwise.nil).1, dif_keys _ _ _ _ List.Pairwise.nil, List.mem_append, only_keys, only_keys]
 constructor
 ·rintro ((⟨y, hy, _⟩ | h) | h)
  ·cases hy
  ·exact .inl h
  ·exact .inr h
 ·rintro (h | h)
  ·exact .inl (.inr h)
  ·exact .inr h
theorem Told.end {a b : List It} {d k : Nat} (ha : WfI a) (hb : WfI b) (he : endsOf a d = true ∨ endsOf b d = true) (hh : ¬ hashOf a d = hashOf b d) : Told (differOf (lvs a) (lvs b)) 1 (cmpF k a b d) := by
 rw [cmpF_end he hh]
 refine ⟨(List.pairwise_map (f := fun x : Lf => x.k) (R := fun x y => blt x y = true)).2 (Srt.difLs _ _), fun k => ?_, rfl⟩
 have h := mem_dif (lvs a) (lvs b) k
 rw [← ha, ← hb] at h
 exact h
theorem Told.join {a b : List It} {d : Nat} {L5 L8 L9 : List ByteArray} {N5 N8 : Int} (h : ¬ hashOf a d = hashOf b d) (h1 : endsOf a d = false) (h2 : endsOf b d = false) (ha : a.length ≤ 5000) (h5 : Told L5 N5 (cmpF (256 - (d + 1)) (halfOf a d 0) (halfOf b d 0) (d + 1))) (h8 : Told L8 N8 (cmpF (256 - (d + 1)) (halfOf a d 1) (halfOf b d 1) (d + 1)))
  (h9 : (L9.Pairwise fun x y => blt x y = true) ∧ ∀ k, k ∈ L9 ↔ k ∈ L5 ∨ k ∈ L8) : Told L9 (wrap64 (wrap64 (1 + N5) + N8)) (cmpF (256 - d) a b d) := by
 have hd := (ends_lt h1).1
 have b0 := (cmpF_bounds (256 - (d + 1)) (halfOf a d 0) (halfOf b d 0) (d + 1)).2
 have b1 := (cmpF_bounds (256 - (d + 1)) (halfOf a d 1) (halfOf b d 1) (d + 1)).2
 have hs := half_sum a d
 have m0 : 2 * (256 - (d + 1)) * (halfOf a d 0).length ≤ 512 * 5000 := Nat.mul_le_mul (by omega) (by omega)
 have m1 : 2 * (256 - (d + 1)) * (halfOf a d 1).length ≤ 512 * 5000 := Nat.mul_le_mul (by omega) (by omega)
 rw [show 256 - d = (256 - (d + 1)) + 1 by omega, cmpF, if_neg h, if_neg (by rw [h1, h2]; simp)]
 obtain ⟨p1, p2, p3⟩ := h5
 obtain ⟨q1, q2, q3⟩ := h8
 refine ⟨h9.1, fun k => ?_, ?_⟩
 ·rw [h9.2, p2, q2]
  show _ ↔ k ∈ _ ++ _
  rw [List.mem_append]
 ·rw [p3, q3]
  exact wr2 (Nat.le_trans b0 (Nat.add_le_add_left m0 1)) (Nat.le_trans b1 (Nat.add_le_add_left m1 1))
set_option maxHeartbeats 4000000 in
theorem rdX_step (d : Nat) (hd : d ≤ 256) (ih : d < 256 → RdIsX (d + 1)) : RdIsX d := by
 intro a b Aa Ab ca cb w hfa hfb hsa hsb hla hlb hra hrb hca hcb
 have hu56 := Tryz.underlying38
 obtain ⟨g, hg⟩ : ∃ g, g = w.heap.size := ⟨_, rfl⟩
 obtain ⟨Z, hz56⟩ : ∃ Z, Z = cF (.slice none 0 0) 0 false := ⟨_, rfl⟩
 obtain ⟨wb, hwb⟩ : ∃ wb, wb = w.alloc (.cells Z 38) := ⟨_, rfl⟩
 have h0 : wb.heap[g]? = some (.cells Z 38 (0, 0)) := by rw [hwb]; exact h_new hg
 have hb : Below w.heap.size w wb := by rw [hwb]; exact below_alloc (Below.refl _ _) _
 have hs : wb.heap.size = g + 1 := by rw [hwb, size_alloc, hg]
 have HB := Aside0.mk (⟨h0, hb, hs, Kd.C_below hra hb, Kd.C_below hrb hb⟩ : _ ∧ _ ∧ _ ∧ _ ∧ _)
 have HWB := Aside0.mk hwb
 have HG := Aside0.mk hg
 have HZ := Aside0.mk (And.intro (show ∀ w, (zeroValue 38).run Tryz.prog w = .ok (.agg Z) w by rw [hz56]; exact zero56) (show Z.size = 3 by rw [hz56]; rfl))
 have HL := Aside0.mk (⟨hsa, hsb, hla, hlb, hca, hcb⟩ : _ ∧ _ ∧ _ ∧ _ ∧ _ ∧ _)
 have HIH := Aside0.mk ih
 have HWF := Aside0.mk (And.intro hfa hfb)
 clear hfa hfb
 obtain ⟨T, hT⟩ : ∃ T, hidF (256 - d) a b d = T := ⟨_, rfl⟩
 obtain ⟨p, hp⟩ : ∃ p, hashOf a d = p := ⟨_, rfl⟩
 obtain ⟨q, hq⟩ : ∃ q, hashOf b d = q := ⟨_, rfl⟩
 have HH := Aside0.mk (And.intro hp hq)
 have HT := Aside0.mk hT
 rw [hT]
 obtain ⟨la, hla0⟩ : ∃ x, lvs a = x := ⟨_, rfl⟩
 obtain ⟨lb, hlb0⟩ : ∃ x, lvs b = x := ⟨_, rfl⟩
 obtain ⟨df, hdf⟩ : ∃ df, differOf la lb = df := ⟨_, rfl⟩
 have hdl : df.length ≤ a.length + b.length := by
  rw [← hdf]
  have h1 := dif_bound la lb
  have h2 : la.length = a.length := by rw [← hla0, lvs, List.length_map]
  have h3 : lb.length = b.length := by rw [← hlb0, lvs, List.length_map]
  omega
 have HDF := Aside0.mk (⟨hdf, hla0, hlb0, by rw [← hla0, lvs, List.length_map]; exact hla, by rw [← hlb0, lvs, List.length_map]; exact hlb⟩ : differOf la lb = df ∧ lvs a = la ∧ lvs b = lb ∧ la.length ≤ 5000 ∧ lb.length ≤ 5000)
 clear hsa hsb hca hcb ih hra hrb hwb hb h0 hs hg hz56 hT hdf hla0 hlb0
 have hwd : 257 > d := by omega
 by_cases hpq : p = q
 ·have hh : hashOf a d = hashOf b d := by rw [hp, hq, hpq]
  have HSM := Aside0.mk hh
  have HT2 := Aside0.mk (show T = decide (0 < df.length) by rw [← HT.out, hidF_same hh, HDF.out.2.1, HDF.out.2.2.1, HDF.out.1])
  subst hpq
  clear hp hq
  by_cases hz : 0 < df.length
  ·have hp1 : (0 : Int) < (df.length : Int) := by omega
   have HT3 := Aside0.mk (show T = true by rw [HT2.out]; exact decide_eq_true hz)
   go_enter Tryz.func33, Tryz.ntmps33
   go_wp2_with (first
    | ((with_reducible refine gate_dst (N := 6) rfl ?_); (refine wpList_allocz rfl 38 Z rfl HZ.out.1 ?_); rw [← HWB.out, ← HG.out])
    | (go_at_call 30; (with_reducible refine (hash4_calls a d hd Aa ca wb HL.out.1 HB.out.2.2.2.1 HL.out.2.2.2.2.1).mono ?_); rw [HH.out.1]; rintro e w1 ⟨rfl, hb1⟩; have H1 := Aside0.mk (⟨hb1, Kd.C_below HB.out.2.2.2.1 hb1, Kd.C_below HB.out.2.2.2.2 hb1⟩ : _ ∧ _ ∧ _); clear hb1)
    | (go_at_call 30; (with_reducible refine (hash4_calls b d hd Ab cb w1 HL.out.2.1 H1.out.2.2 HL.out.2.2.2.2.2).mono ?_); rw [HH.out.2]; rintro e w2 ⟨rfl, hb2⟩; have H2 := Aside0.mk (⟨below_tr H1.out.1 hb2 H1.out.1.size, Kd.C_below H1.out.2.1 hb2, Kd.C_below H1.out.2.2 hb2⟩ : _ ∧ _ ∧ _); clear hb2)
    | ((with_reducible refine gate_dst (N := 15) rfl ?_); refine wpList_eql rfl _ _ _ _ rfl _ _ rfl rfl gt_S _ (fun w => eqS_r w p) ?_)
    | (go_at_call 58; (with_reducible refine (leavesR_calls a la HDF.out.2.1 Aa ca w2 H2.out.2.1 HL.out.2.2.2.2.1 hla).mono ?_); rintro e w3 ⟨A3, c3, rfl, hr3, hb3⟩; have H3 := Aside0.mk (⟨below_tr H2.out.1 hb3 H2.out.1.size, Kd.C_below H2.out.2.2 hb3, hr3⟩ : _ ∧ _ ∧ _); clear hb3 hr3)
    | (go_at_call 58; (with_reducible refine (leavesR_calls b lb HDF.out.2.2.1 Ab cb w3 H3.out.2.1 HL.out.2.2.2.2.2 hlb).mono ?_); rintro e w4 ⟨A4, c4, rfl, hr4, hb4⟩; have H4 := Aside0.mk (⟨below_tr H3.out.1 hb4 H3.out.1.size, Kd.R_below H3.out.2.2 hb4, hr4⟩ : _ ∧ _ ∧ _); clear hb4 hr4)
    | (go_at_call 57; go_loud ((with_reducible refine (DifferK_calls la lb A3 A4 c3 c4 w4 H4.out.2.1 H4.out.2.2 HDF.out.2.2.2.1 HDF.out.2.2.2.2 df HDF.out.1).mono ?_); rintro e w5 ⟨A5, c5, rfl, hr5, hb5⟩; have H5 := Aside0.mk (⟨below_tr H4.out.1 hb5 H4.out.1.size, Kd.R_lower hr5 H4.out.1.size⟩ : Below wb.heap.size wb w5 ∧ Kd.string.R 9 w5 wb.heap.size (fun _ => True) (.slice A5 df.length c5) df); clear hb5 hr5))
    | (refine bld_F12 rfl _ rfl true rfl ?_)
    | ((with_reducible refine gate_store (t := 38) rfl ?_); go_loud (refine wpList_store_row rfl 38 (.tmp 6) (.tmp 23) rfl g (cF (.slice none 0 0) 1 true) rfl rfl 38 Z ((H5.out.1.block _ (by have := HB.out.2.2.1; omega)).trans HB.out.1) (by kernel_rfl) HZ.out.2 (cF_one rfl) ?_)))
   refine bodyPost_ret (v := .agg (cF (.slice none 0 0) 1 true)) ?_ rfl ⟨none, 0, [], 1, by rw [HT3.out]; rfl, R_none _ _, Nat.zero_le _, Told.same HSM.out, below_setRow (HB.out.2.1.trans (H5.out.1.mono (by have := HB.out.2.1.size; omega))) (by have := HG.out; omega)⟩
   exact results_cell_row rfl _ _ g 38 _ (0, 0) _ rfl (setRow_heap _ _ _ _ _ _ ((H5.out.1.block _ (by have := HB.out.2.2.1; omega)).trans HB.out.1)) hu56 rfl (by kernel_rfl)
  ·have hp1 : ¬ (0 : Int) < (df.length : Int) := by omega
   have HT3 := Aside0.mk (show T = false by rw [HT2.out]; exact decide_eq_false hz)
   go_enter Tryz.func33, Tryz.ntmps33
   go_wp2_with (first
    | ((with_reducible refine gate_dst (N := 6) rfl ?_); (refine wpList_allocz rfl 38 Z rfl HZ.out.1 ?_); rw [← HWB.out, ← HG.out])
    | (go_at_call 30; (with_reducible refine (hash4_calls a d hd Aa ca wb HL.out.1 HB.out.2.2.2.1 HL.out.2.2.2.2.1).mono ?_); rw [HH.out.1]; rintro e w1 ⟨rfl, hb1⟩; have H1 := Aside0.mk (⟨hb1, Kd.C_below HB.out.2.2.2.1 hb1, Kd.C_below HB.out.2.2.2.2 hb1⟩ : _ ∧ _ ∧ _); clear hb1)
    | (go_at_call 30; (with_reducible refine (hash4_calls b d hd Ab cb w1 HL.out.2.1 H1.out.2.2 HL.out.2.2.2.2.2).mono ?_); rw [HH.out.2]; rintro e w2 ⟨rfl, hb2⟩; have H2 := Aside0.mk (⟨below_tr H1.out.1 hb2 H1.out.1.size, Kd.C_below H1.out.2.1 hb2, Kd.C_below H1.out.2.2 hb2⟩ : _ ∧ _ ∧ _); clear hb2)
    | ((with_reducible refine gate_dst (N := 15) rfl ?_); refine wpList_eql rfl _ _ _ _ rfl _ _ rfl rfl gt_S _ (fun w => eqS_r w p) ?_)
    | (go_at_call 58; (with_reducible refine (leavesR_calls a la HDF.out.2.1 Aa ca w2 H2.out.2.1 HL.out.2.2.2.2.1 hla).mono ?_); rintro e w3 ⟨A3, c3, rfl, hr3, hb3⟩; have H3 := Aside0.mk (⟨below_tr H2.out.1 hb3 H2.out.1.size, Kd.C_below H2.out.2.2 hb3, hr3⟩ : _ ∧ _ ∧ _); clear hb3 hr3)
    | (go_at_call 58; (with_reducible refine (leavesR_calls b lb HDF.out.2.2.1 Ab cb w3 H3.out.2.1 HL.out.2.2.2.2.2 hlb).mono ?_); rintro e w4 ⟨A4, c4, rfl, hr4, hb4⟩; have H4 := Aside0.mk (⟨below_tr H3.out.1 hb4 H3.out.1.size, Kd.R_below H3.out.2.2 hb4, hr4⟩ : _ ∧ _ ∧ _); clear hb4 hr4)
    | (go_at_call 57; go_loud ((with_reducible refine (DifferK_calls la lb A3 A4 c3 c4 w4 H4.out.2.1 H4.out.2.2 HDF.out.2.2.2.1 HDF.out.2.2.2.2 df HDF.out.1).mono ?_); rintro e w5 ⟨A5, c5, rfl, hr5, hb5⟩; have H5 := Aside0.mk (⟨below_tr H4.out.1 hb5 H4.out.1.size, Kd.R_lower hr5 H4.out.1.size⟩ : Below wb.heap.size wb w5 ∧ Kd.string.R 9 w5 wb.heap.size (fun _ => True) (.slice A5 df.length c5) df); clear hb5 hr5))
    | (refine bld_F12 rfl _ rfl false rfl ?_)
    | ((with_reducible refine gate_store (t := 38) rfl ?_); go_loud (refine wpList_store_row rfl 38 (.tmp 6) (.tmp 23) rfl g (cF (.slice none 0 0) 1 false) rfl rfl 38 Z ((H5.out.1.block _ (by have := HB.out.2.2.1; omega)).trans HB.out.1) (by kernel_rfl) HZ.out.2 (cF_one rfl) ?_)))
   refine bodyPost_ret (v := .agg (cF (.slice none 0 0) 1 false)) ?_ rfl ⟨none, 0, [], 1, by rw [HT3.out]; rfl, R_none _ _, Nat.zero_le _, Told.same HSM.out, below_setRow (HB.out.2.1.trans (H5.out.1.mono (by have := HB.out.2.1.size; omega))) (by have := HG.out; omega)⟩
   exact results_cell_row rfl _ _ g 38 _ (0, 0) _ rfl (setRow_heap _ _ _ _ _ _ ((H5.out.1.block _ (by have := HB.out.2.2.1; omega)).trans HB.out.1)) hu56 rfl (by kernel_rfl)
 ·have hh : ¬ hashOf a d = hashOf b d := by rw [hp, hq]; exact hpq
  have hde : decide (p = q) = false := decide_eq_false hpq
  by_cases hea : endsOf a d = true ∨ endsOf b d = true
  ·have HT3 := Aside0.mk (show T = false by rw [← HT.out, hidF_end hh hea])
   have HEA := Aside0.mk (And.intro hea hh)
   clear hp hq
   by_cases hA : endsOf a d = true
   ·go_enter Tryz.func33, Tryz.ntmps33
    go_wp2_with (first
      | ((with_reducible refine gate_dst (N := 6) rfl ?_); (refine wpList_allocz rfl 38 Z rfl HZ.out.1 ?_); rw [← HWB.out, ← HG.out])
      | (go_at_call 30; (with_reducible refine (hash4_calls a d hd Aa ca wb HL.out.1 HB.out.2.2.2.1 HL.out.2.2.2.2.1).mono ?_); rw [HH.out.1]; rintro e w1 ⟨rfl, hb1⟩; have H1 := Aside0.mk (⟨hb1, Kd.C_below HB.out.2.2.2.1 hb1, Kd.C_below HB.out.2.2.2.2 hb1⟩ : _ ∧ _ ∧ _); clear hb1)
      | (go_at_call 30; (with_reducible refine (hash4_calls b d hd Ab cb w1 HL.out.2.1 H1.out.2.2 HL.out.2.2.2.2.2).mono ?_); rw [HH.out.2]; rintro e w2 ⟨rfl, hb2⟩; have H2 := Aside0.mk (⟨below_tr H1.out.1 hb2 H1.out.1.size, Kd.C_below H1.out.2.1 hb2, Kd.C_below H1.out.2.2 hb2⟩ : _ ∧ _ ∧ _); clear hb2)
      | ((with_reducible refine gate_dst (N := 15) rfl ?_); refine wpList_eql rfl _ _ _ _ rfl _ _ rfl rfl gt_S _ (fun w => eqS w p q) ?_; rw [hde])
      | (go_at_call 28; (with_reducible refine (ends4_calls a d hd Aa ca w2).mono ?_); rw [hA]; rintro e w9 ⟨rfl, e9⟩; rw [e9]; clear e9)
      | (go_at_call 58; (with_reducible refine (leavesR_calls a la HDF.out.2.1 Aa ca w2 H2.out.2.1 HL.out.2.2.2.2.1 hla).mono ?_); rintro e w3 ⟨A3, c3, rfl, hr3, hb3⟩; have H3 := Aside0.mk (⟨below_tr H2.out.1 hb3 H2.out.1.size, Kd.C_below H2.out.2.2 hb3, hr3⟩ : _ ∧ _ ∧ _); clear hb3 hr3)
      | (go_at_call 58; (with_reducible refine (leavesR_calls b lb HDF.out.2.2.1 Ab cb w3 H3.out.2.1 HL.out.2.2.2.2.2 hlb).mono ?_); rintro e w4 ⟨A4, c4, rfl, hr4, hb4⟩; have H4 := Aside0.mk (⟨below_tr H3.out.1 hb4 H3.out.1.size, Kd.R_below H3.out.2.2 hb4, hr4⟩ : _ ∧ _ ∧ _); clear hb4 hr4)
      | (go_at_call 57; go_loud ((with_reducible refine (DifferK_calls la lb A3 A4 c3 c4 w4 H4.out.2.1 H4.out.2.2 HDF.out.2.2.2.1 HDF.out.2.2.2.2 df HDF.out.1).mono ?_); rintro e w5 ⟨A5, c5, rfl, hr5, hb5⟩; have H5 := Aside0.mk (⟨below_tr H4.out.1 hb5 H4.out.1.size, Kd.R_lower hr5 H4.out.1.size⟩ : Below wb.heap.size wb w5 ∧ Kd.string.R 9 w5 wb.heap.size (fun _ => True) (.slice A5 df.length c5) df); clear hb5 hr5))
      | (refine bld_F rfl _ _ rfl A5 df.length c5 1 rfl rfl ?_)
      | ((with_reducible refine gate_store (t := 38) rfl ?_); go_loud (refine wpList_store_row rfl 38 (.tmp 6) (.tmp 37) rfl g (cF (.slice A5 df.length c5) 1 false) rfl rfl 38 Z ((H5.out.1.block _ (by have := HB.out.2.2.1; omega)).trans HB.out.1) (by kernel_rfl) HZ.out.2 (cF_one rfl) ?_)))
    refine bodyPost_ret (v := .agg (cF (.slice A5 df.length c5) 1 false)) ?_ rfl ⟨A5, c5, df, 1, by rw [HT3.out], Kd.R_lower (R_setRow H5.out.2 (by have := HB.out.2.2.1; omega) _) HB.out.2.1.size, hdl, (by rw [← HDF.out.1, ← HDF.out.2.1, ← HDF.out.2.2.1]; exact Told.end HWF.out.1 HWF.out.2 HEA.out.1 HEA.out.2), below_setRow (HB.out.2.1.trans (H5.out.1.mono (by have := HB.out.2.1.size; omega))) (by have := HG.out; omega)⟩
    exact results_cell_row rfl _ _ g 38 _ (0, 0) _ rfl (setRow_heap _ _ _ _ _ _ ((H5.out.1.block _ (by have := HB.out.2.2.1; omega)).trans HB.out.1)) hu56 rfl (by kernel_rfl)
   ·have hA : endsOf a d = false := by simpa using hA
    have hB : endsOf b d = true := by rcases hea with h | h; exact absurd h (by rw [hA]; simp); exact h
    go_enter Tryz.func33, Tryz.ntmps33
    go_wp2_with (first
      | ((with_reducible refine gate_dst (N := 6) rfl ?_); (refine wpList_allocz rfl 38 Z rfl HZ.out.1 ?_); rw [← HWB.out, ← HG.out])
      | (go_at_call 30; (with_reducible refine (hash4_calls a d hd Aa ca wb HL.out.1 HB.out.2.2.2.1 HL.out.2.2.2.2.1).mono ?_); rw [HH.out.1]; rintro e w1 ⟨rfl, hb1⟩; have H1 := Aside0.mk (⟨hb1, Kd.C_below HB.out.2.2.2.1 hb1, Kd.C_below HB.out.2.2.2.2 hb1⟩ : _ ∧ _ ∧ _); clear hb1)
      | (go_at_call 30; (with_reducible refine (hash4_calls b d hd Ab cb w1 HL.out.2.1 H1.out.2.2 HL.out.2.2.2.2.2).mono ?_); rw [HH.out.2]; rintro e w2 ⟨rfl, hb2⟩; have H2 := Aside0.mk (⟨below_tr H1.out.1 hb2 H1.out.1.size, Kd.C_below H1.out.2.1 hb2, Kd.C_below H1.out.2.2 hb2⟩ : _ ∧ _ ∧ _); clear hb2)
      | ((with_reducible refine gate_dst (N := 15) rfl ?_); refine wpList_eql rfl _ _ _ _ rfl _ _ rfl rfl gt_S _ (fun w => eqS w p q) ?_; rw [hde])
      | (go_at_call 28; (with_reducible refine (ends4_calls a d hd Aa ca w2).mono ?_); rw [hA]; rintro e w9 ⟨rfl, e9⟩; rw [e9]; clear e9)
      | (go_at_call 28; (with_reducible refine (ends4_calls b d hd Ab cb w2).mono ?_); rw [hB]; rintro e w9 ⟨rfl, e9⟩; rw [e9]; clear e9)
      | (go_at_call 58; (with_reducible refine (leavesR_calls a la HDF.out.2.1 Aa ca w2 H2.out.2.1 HL.out.2.2.2.2.1 hla).mono ?_); rintro e w3 ⟨A3, c3, rfl, hr3, hb3⟩; have H3 := Aside0.mk (⟨below_tr H2.out.1 hb3 H2.out.1.size, Kd.C_below H2.out.2.2 hb3, hr3⟩ : _ ∧ _ ∧ _); clear hb3 hr3)
      | (go_at_call 58; (with_reducible refine (leavesR_calls b lb HDF.out.2.2.1 Ab cb w3 H3.out.2.1 HL.out.2.2.2.2.2 hlb).mono ?_); rintro e w4 ⟨A4, c4, rfl, hr4, hb4⟩; have H4 := Aside0.mk (⟨below_tr H3.out.1 hb4 H3.out.1.size, Kd.R_below H3.out.2.2 hb4, hr4⟩ : _ ∧ _ ∧ _); clear hb4 hr4)
      | (go_at_call 57; go_loud ((with_reducible refine (DifferK_calls la lb A3 A4 c3 c4 w4 H4.out.2.1 H4.out.2.2 HDF.out.2.2.2.1 HDF.out.2.2.2.2 df HDF.out.1).mono ?_); rintro e w5 ⟨A5, c5, rfl, hr5, hb5⟩; have H5 := Aside0.mk (⟨below_tr H4.out.1 hb5 H4.out.1.size, Kd.R_lower hr5 H4.out.1.size⟩ : Below wb.heap.size wb w5 ∧ Kd.string.R 9 w5 wb.heap.size (fun _ => True) (.slice A5 df.length c5) df); clear hb5 hr5))
      | (refine bld_F rfl _ _ rfl A5 df.length c5 1 rfl rfl ?_)
      | ((with_reducible refine gate_store (t := 38) rfl ?_); go_loud (refine wpList_store_row rfl 38 (.tmp 6) (.tmp 37) rfl g (cF (.slice A5 df.length c5) 1 false) rfl rfl 38 Z ((H5.out.1.block _ (by have := HB.out.2.2.1; omega)).trans HB.out.1) (by kernel_rfl) HZ.out.2 (cF_one rfl) ?_)))
    refine bodyPost_ret (v := .agg (cF (.slice A5 df.length c5) 1 false)) ?_ rfl ⟨A5, c5, df, 1, by rw [HT3.out], Kd.R_lower (R_setRow H5.out.2 (by have := HB.out.2.2.1; omega) _) HB.out.2.1.size, hdl, (by rw [← HDF.out.1, ← HDF.out.2.1, ← HDF.out.2.2.1]; exact Told.end HWF.out.1 HWF.out.2 HEA.out.1 HEA.out.2), below_setRow (HB.out.2.1.trans (H5.out.1.mono (by have := HB.out.2.1.size; omega))) (by have := HG.out; omega)⟩
    exact results_cell_row rfl _ _ g 38 _ (0, 0) _ rfl (setRow_heap _ _ _ _ _ _ ((H5.out.1.block _ (by have := HB.out.2.2.1; omega)).trans HB.out.1)) hu56 rfl (by kernel_rfl)
  ·have hA : endsOf a d = false := by
    cases h : endsOf a d with
    | false => rfl
    | true => exact absurd (.inl h) hea
   have hB : endsOf b d = false := by
    cases h : endsOf b d with
    | false => rfl
    | true => exact absurd (.inr h) hea
   obtain ⟨hd1, _⟩ := ends_lt hA
   obtain ⟨a0, ha0⟩ : ∃ x, halfOf a d 0 = x := ⟨_, rfl⟩
   obtain ⟨a1, ha1⟩ : ∃ x, halfOf a d 1 = x := ⟨_, rfl⟩
   obtain ⟨b0, hb0⟩ : ∃ x, halfOf b d 0 = x := ⟨_, rfl⟩
   obtain ⟨b1, hb1⟩ : ∃ x, halfOf b d 1 = x := ⟨_, rfl⟩
   obtain ⟨t0, ht0⟩ : ∃ x, hidF (256 - (d + 1)) a0 b0 (d + 1) = x := ⟨_, rfl⟩
   obtain ⟨t1, ht1⟩ : ∃ x, hidF (256 - (d + 1)) a1 b1 (d + 1) = x := ⟨_, rfl⟩
   obtain ⟨kn0, hkn0⟩ : ∃ x, cmpF (256 - (d + 1)) a0 b0 (d + 1) = x := ⟨_, rfl⟩
   obtain ⟨kn1, hkn1⟩ : ∃ x, cmpF (256 - (d + 1)) a1 b1 (d + 1) = x := ⟨_, rfl⟩
   have HJ := Aside0.mk (fun (L5 L8 L9 : List ByteArray) (N5 N8 : Int) (h5 : Told L5 N5 kn0) (h8 : Told L8 N8 kn1) h9 => by rw [← hkn0, ← ha0, ← hb0] at h5; rw [← hkn1, ← ha1, ← hb1] at h8; exact Told.join (L9 := L9) hh hA hB HL.out.2.2.1 h5 h8 h9)
   have HT3 := Aside0.mk (show T = (t0 || t1) by rw [← HT.out, hidF_go hh hA hB, ha0, ha1, hb0, hb1, ht0, ht1])
   have hsa := half_sum a d
   have hsb := half_sum b d
   rw [ha0, ha1] at hsa
   rw [hb0, hb1] at hsb
   have hi := HIH.out hd1
   have HC0 := Aside0.mk (fun (Aa Ab : Option Addr) (ca cb : Nat) (w : World) h1 h2 h3 h4 => by
    have h := hi a0 b0 Aa Ab ca cb w (by rw [← ha0]; exact HWF.out.1.half d 0) (by rw [← hb0]; exact HWF.out.2.half d 0) (by rw [← ha0]; exact HL.out.1.half d 0) (by rw [← hb0]; exact HL.out.2.1.half d 0) (by omega) (by omega) h1 h2 h3 h4
    rw [ht0, hkn0, show ((d + 1 : Nat) : Int) = (d : Int) + 1 by omega] at h
    exact h : ∀ (Aa Ab : Option Addr) (ca cb : Nat) (w : World), kI.C w Aa a0.length a0 → kI.C w Ab b0.length b0 → a0.length ≤ ca → b0.length ≤ cb → Calls Tryz.prog 33 #[.slice Aa a0.length ca, .slice Ab b0.length cb, .int .i64 ((d : Int) + 1)] w (RdPostX w (a0.length + b0.length) t0 kn0))
   have HC1 := Aside0.mk (fun (Aa Ab : Option Addr) (ca cb : Nat) (w : World) h1 h2 h3 h4 => by
    have h := hi a1 b1 Aa Ab ca cb w (by rw [← ha1]; exact HWF.out.1.half d 1) (by rw [← hb1]; exact HWF.out.2.half d 1) (by rw [← ha1]; exact HL.out.1.half d 1) (by rw [← hb1]; exact HL.out.2.1.half d 1) (by omega) (by omega) h1 h2 h3 h4
    rw [ht1, hkn1, show ((d + 1 : Nat) : Int) = (d : Int) + 1 by omega] at h
    exact h : ∀ (Aa Ab : Option Addr) (ca cb : Nat) (w : World), kI.C w Aa a1.length a1 → kI.C w Ab b1.length b1 → a1.length ≤ ca → b1.length ≤ cb → Calls Tryz.prog 33 #[.slice Aa a1.length ca, .slice Ab b1.length cb, .int .i64 ((d : Int) + 1)] w (RdPostX w (a1.length + b1.length) t1 kn1))
   have HE := Aside0.mk (⟨ha0, ha1, hb0, hb1⟩ : _ ∧ _ ∧ _ ∧ _)
   clear hp hq hi ha0 ha1 hb0 hb1 ht0 ht1 hh hea hkn0 hkn1
   have hla2 : a.length ≤ 100000 := by omega
   have hlb2 : b.length ≤ 100000 := by omega
   go_enter Tryz.func33, Tryz.ntmps33
   go_wp2_with (first
     | ((with_reducible refine gate_dst (N := 6) rfl ?_); (refine wpList_allocz rfl 38 Z rfl HZ.out.1 ?_); rw [← HWB.out, ← HG.out])
     | (go_at_call 30; (with_reducible refine (hash4_calls a d hd Aa ca wb HL.out.1 HB.out.2.2.2.1 HL.out.2.2.2.2.1).mono ?_); rw [HH.out.1]; rintro e w1 ⟨rfl, hb1⟩; have H1 := Aside0.mk (⟨hb1, Kd.C_below HB.out.2.2.2.1 hb1, Kd.C_below HB.out.2.2.2.2 hb1⟩ : _ ∧ _ ∧ _); clear hb1)
     | (go_at_call 30; (with_reducible refine (hash4_calls b d hd Ab cb w1 HL.out.2.1 H1.out.2.2 HL.out.2.2.2.2.2).mono ?_); rw [HH.out.2]; rintro e w2 ⟨rfl, hb2⟩; have H2 := Aside0.mk (⟨below_tr H1.out.1 hb2 H1.out.1.size, Kd.C_below H1.out.2.1 hb2, Kd.C_below H1.out.2.2 hb2⟩ : _ ∧ _ ∧ _); clear hb2)
     | ((with_reducible refine gate_dst (N := 15) rfl ?_); refine wpList_eql rfl _ _ _ _ rfl _ _ rfl rfl gt_S _ (fun w => eqS w p q) ?_; rw [hde])
     | (go_at_call 28; (with_reducible refine (ends4_calls a d hd Aa ca w2).mono ?_); rw [hA]; rintro e w9 ⟨rfl, e9⟩; rw [e9]; clear e9)
     | (go_at_call 28; (with_reducible refine (ends4_calls b d hd Ab cb w2).mono ?_); rw [hB]; rintro e w9 ⟨rfl, e9⟩; rw [e9]; clear e9)
     | (go_at_call 31; (with_reducible refine (half4_calls a d hd1 0 Aa ca w2 H2.out.2.1 HL.out.2.2.2.2.1 hla2).mono ?_); rw [HE.out.1]; rintro e w3 ⟨v3, rfl, hv3, hb3⟩; obtain ⟨A3, c3, rfl, hc3, hr3⟩ := Kd.R_reads hv3; have H3 := Aside0.mk (⟨below_tr H2.out.1 hb3 H2.out.1.size, Kd.C_below H2.out.2.1 hb3, Kd.C_below H2.out.2.2 hb3, hr3⟩ : _ ∧ _ ∧ _ ∧ _); clear hr3 hb3 hv3)
     | (go_at_call 31; (with_reducible refine (half4_calls b d hd1 0 Ab cb w3 H3.out.2.2.1 HL.out.2.2.2.2.2 hlb2).mono ?_); rw [HE.out.2.2.1]; rintro e w4 ⟨v4, rfl, hv4, hb4⟩; obtain ⟨A4, c4, rfl, hc4, hr4⟩ := Kd.R_reads hv4; have H4 := Aside0.mk (⟨below_tr H3.out.1 hb4 H3.out.1.size, Kd.C_below H3.out.2.1 hb4, Kd.C_below H3.out.2.2.1 hb4, Kd.C_below H3.out.2.2.2 hb4, hr4⟩ : _ ∧ _ ∧ _ ∧ _ ∧ _); clear hr4 hb4 hv4)
     | (go_at_call 33; (with_reducible refine (HC0.out A3 A4 c3 c4 w4 H4.out.2.2.2.1 H4.out.2.2.2.2 hc3 hc4).mono ?_); rintro e w5 ⟨A5, c5, L5, N5, rfl, hr5, hl5, ht5, hb5⟩; have HTD5 := Aside0.mk ht5; clear ht5; have H5 := Aside0.mk (⟨below_tr H4.out.1 hb5 H4.out.1.size, Kd.C_below H4.out.2.1 hb5, Kd.C_below H4.out.2.2.1 hb5, Kd.R_lower hr5 H4.out.1.size⟩ : Below wb.heap.size wb w5 ∧ _ ∧ _ ∧ Kd.string.R 9 w5 wb.heap.size (fun _ => True) (.slice A5 L5.length c5) L5); clear hr5 hb5)
     | (go_at_call 31; (with_reducible refine (half4_calls a d hd1 1 Aa ca w5 H5.out.2.1 HL.out.2.2.2.2.1 hla2).mono ?_); rw [HE.out.2.1]; rintro e w6 ⟨v6, rfl, hv6, hb6⟩; obtain ⟨A6, c6, rfl, hc6, hr6⟩ := Kd.R_reads hv6; have H6 := Aside0.mk (⟨below_tr H5.out.1 hb6 H5.out.1.size, Kd.C_below H5.out.2.2.1 hb6, Kd.R_below H5.out.2.2.2 hb6, hr6⟩ : _ ∧ _ ∧ _ ∧ _); clear hr6 hb6 hv6)
     | (go_at_call 31; (with_reducible refine (half4_calls b d hd1 1 Ab cb w6 H6.out.2.1 HL.out.2.2.2.2.2 hlb2).mono ?_); rw [HE.out.2.2.2]; rintro e w7 ⟨v7, rfl, hv7, hb7⟩; obtain ⟨A7, c7, rfl, hc7, hr7⟩ := Kd.R_reads hv7; have H7 := Aside0.mk (⟨below_tr H6.out.1 hb7 H6.out.1.size, Kd.R_below H6.out.2.2.1 hb7, Kd.C_below H6.out.2.2.2 hb7, hr7⟩ : _ ∧ _ ∧ _ ∧ _); clear hr7 hb7 hv7)
     | (go_at_call 33; (with_reducible refine (HC1.out A6 A7 c6 c7 w7 H7.out.2.2.1 H7.out.2.2.2 hc6 hc7).mono ?_); rintro e w8 ⟨A8, c8, L8, N8, rfl, hr8, hl8, ht8, hb8⟩; have HTD8 := Aside0.mk ht8; clear ht8; have H8 := Aside0.mk (⟨below_tr H7.out.1 hb8 H7.out.1.size, Kd.R_below H7.out.2.1 hb8, Kd.R_lower hr8 H7.out.1.size⟩ : Below wb.heap.size wb w8 ∧ _ ∧ Kd.string.R 9 w8 wb.heap.size (fun _ => True) (.slice A8 L8.length c8) L8); clear hr8 hb8; obtain ⟨D5, hD5⟩ : ∃ D, D = cF (.slice A5 L5.length c5) N5 t0 := ⟨_, rfl⟩; obtain ⟨D8, hD8⟩ : ∃ D, D = cF (.slice A8 L8.length c8) N8 t1 := ⟨_, rfl⟩; rw [← hD5, ← hD8]; have HD := Aside0.mk (And.intro hD5 hD8); obtain ⟨n5, hn5⟩ : ∃ n, n = w8.heap.size := ⟨_, rfl⟩; obtain ⟨ux, hux⟩ : ∃ wx, (w8.alloc (.cells Z 38)).alloc (.cells Z 38) = wx := ⟨_, rfl⟩; obtain ⟨uy, huy⟩ : ∃ wy, (ux.setRow n5 D5).setRow (n5 + 1) D8 = wy := ⟨_, rfl⟩; have HU5 := Aside0.mk (two_boxes hn5 hux huy); have HUX := Aside0.mk hux; have HUY := Aside0.mk huy; have HN5 := Aside0.mk hn5; clear hux huy hn5 hD5 hD8)
     | ((with_reducible refine gate_dst (N := 7) rfl ?_); (refine wpList_allocz rfl 38 Z rfl HZ.out.1 ?_))
     | ((with_reducible refine gate_dst (N := 8) rfl ?_); (refine wpList_allocz rfl 38 Z rfl HZ.out.1 ?_); rw [size_alloc, ← HN5.out])
     | ((with_reducible refine gate_store (t := 38) (p := 7) rfl ?_); rw [HUX.out]; (refine wpList_store_row rfl 38 (.tmp 7) (.tmp 46) rfl n5 D5 rfl rfl 38 Z HU5.out.1 (by rw [HD.out.1]; kernel_rfl) (by rw [HD.out.1, HZ.out.2]; rfl) (by rw [HD.out.1]; exact cF_one rfl) ?_))
     | ((with_reducible refine gate_store (t := 38) (p := 8) rfl ?_); (refine wpList_store_row rfl 38 (.tmp 8) (.tmp 55) rfl (n5 + 1) D8 rfl rfl 38 Z HU5.out.2.1 (by rw [HD.out.2]; kernel_rfl) (by rw [HD.out.2, HZ.out.2]; rfl) (by rw [HD.out.2]; exact cF_one rfl) ?_); (refine at_world (w' := uy) HUY.out ?_); have HY := Aside0.mk (⟨below_tr H8.out.1 HU5.out.2.2.2.2 H8.out.1.size, Kd.R_below H8.out.2.1 HU5.out.2.2.2.2, Kd.R_below H8.out.2.2 HU5.out.2.2.2.2, HU5.out.2.2.1, HU5.out.2.2.2.1⟩ : _ ∧ _ ∧ _ ∧ _ ∧ _)))
   have hcc : ∀ W, Below uy.heap.size uy W → W.cell? ⟨n5, 0, none⟩ = some (.slice A5 L5.length c5) ∧ W.cell? ⟨n5, 1, none⟩ = some (.int .i64 N5) ∧ W.cell? ⟨n5, 2, none⟩ = some (.bool t0) ∧ W.cell? ⟨n5 + 1, 0, none⟩ = some (.slice A8 L8.length c8) ∧ W.cell? ⟨n5 + 1, 1, none⟩ = some (.int .i64 N8) ∧ W.cell? ⟨n5 + 1, 2, none⟩ = some (.bool t1) := fun W hb => by
    have h5 := at_next HY.out.2.2.2.1 hb
    have h8 := at_next HY.out.2.2.2.2 hb
    exact ⟨cell_F0 HD.out.1 h5, cell_F1 HD.out.1 h5, (cell_of_row W n5 2 _ _ _ h5).trans (by rw [HD.out.1]; rfl), cell_F0 HD.out.2 h8, cell_F1 HD.out.2 h8, (cell_of_row W (n5 + 1) 2 _ _ _ h8).trans (by rw [HD.out.2]; rfl)⟩
   have HCC := Aside0.mk hcc
   clear hcc
   cases t0 with
   | true =>
    refine start_ (n := 19) (S := fun w' => Below uy.heap.size uy w') (ds := [18]) #[false, false, false, false, false, false, false, false, false, false, false, false, false, false, false, false, false, false, false] (by kernel_rfl) rfl rfl (Below.refl _ _).drew (fun hHeld => ?_)
    refine pure_ (i := 0) (N := some 56) (v := ?_) (a' := ?_) #[true, false, false, false, false, false, false, false, false, false, false, false, false, false, false, false, false, false, false] rfl rfl (by kernel_rfl) (fun _ _ _ h => h) (Or.inl ⟨by rfl, ?_⟩) ?_ ?_
    rotate_left
    ·intro w'
     go_simp
     with_reducible rfl
    rotate_left
    ·simp only [Act.put, lZa, lZb, lZc, i64_w, i32_w]
     rfl
    refine take_ (i := 1) (N := some 57) (v := ?_) (a' := ?_) #[true, true, false, false, false, false, false, false, false, false, false, false, false, false, false, false, false, false, false] rfl rfl (by kernel_rfl) (fun _ _ _ h => h) (Or.inl ⟨by rfl, ?_⟩) hHeld ?_ ?_
    rotate_left
    ·intro w' hS
     have hx := (HCC.out w' hS).1
     go_simp
     with_reducible rfl
    rotate_left
    ·simp only [Act.put, lZa, lZb, lZc, i64_w, i32_w]
     rfl
    refine pure_ (i := 2) (N := some 58) (v := ?_) (a' := ?_) #[true, true, true, false, false, false, false, false, false, false, false, false, false, false, false, false, false, false, false] rfl rfl (by kernel_rfl) (fun _ _ _ h => h) (Or.inl ⟨by rfl, ?_⟩) ?_ ?_
    rotate_left
    ·intro w'
     go_simp
     with_reducible rfl
    rotate_left
    ·simp only [Act.put, lZa, lZb, lZc, i64_w, i32_w]
     rfl
    refine take_ (i := 3) (N := some 59) (v := ?_) (a' := ?_) #[true, true, true, true, false, false, false, false, false, false, false, false, false, false, false, false, false, false, false] rfl rfl (by kernel_rfl) (fun _ _ _ h => h) (Or.inl ⟨by rfl, ?_⟩) hHeld ?_ ?_
    rotate_left
    ·intro w' hS
     have hx := (HCC.out w' hS).2.2.2.1
     go_simp
     with_reducible rfl
    rotate_left
    ·simp only [Act.put, lZa, lZb, lZc, i64_w, i32_w]
     rfl
    refine pure_ (i := 5) (N := some 61) (v := ?_) (a' := ?_) #[true, true, true, true, false, true, false, false, false, false, false, false, false, false, false, false, false, false, false] rfl rfl (by kernel_rfl) (fun _ _ _ h => h) (Or.inl ⟨by rfl, ?_⟩) ?_ ?_
    rotate_left
    ·intro w'
     go_simp
     with_reducible rfl
    rotate_left
    ·simp only [Act.put, lZa, lZb, lZc, i64_w, i32_w]
     rfl
    refine take_ (i := 6) (N := some 62) (v := ?_) (a' := ?_) #[true, true, true, true, false, true, true, false, false, false, false, false, false, false, false, false, false, false, false] rfl rfl (by kernel_rfl) (fun _ _ _ h => h) (Or.inl ⟨by rfl, ?_⟩) hHeld ?_ ?_
    rotate_left
    ·intro w' hS
     have hx := (HCC.out w' hS).2.1
     go_simp
     with_reducible rfl
    rotate_left
    ·simp only [Act.put, lZa, lZb, lZc, i64_w, i32_w]
     rfl
    refine pure_ (i := 7) (N := some 63) (v := ?_) (a' := ?_) #[true, true, true, true, false, true, true, true, false, false, false, false, false, false, false, false, false, false, false] rfl rfl (by kernel_rfl) (fun _ _ _ h => h) (Or.inl ⟨by rfl, ?_⟩) ?_ ?_
    rotate_left
    ·intro w'
     go_simp
     with_reducible rfl
    rotate_left
    ·simp only [Act.put, lZa, lZb, lZc, i64_w, i32_w]
     rfl
    refine pure_ (i := 8) (N := some 64) (v := ?_) (a' := ?_) #[true, true, true, true, false, true, true, true, true, false, false, false, false, false, false, false, false, false, false] rfl rfl (by kernel_rfl) (fun _ _ _ h => h) (Or.inl ⟨by rfl, ?_⟩) ?_ ?_
    rotate_left
    ·intro w'
     go_simp
     with_reducible rfl
    rotate_left
    ·simp only [Act.put, lZa, lZb, lZc, i64_w, i32_w]
     rfl
    refine take_ (i := 9) (N := some 65) (v := ?_) (a' := ?_) #[true, true, true, true, false, true, true, true, true, true, false, false, false, false, false, false, false, false, false] rfl rfl (by kernel_rfl) (fun _ _ _ h => h) (Or.inl ⟨by rfl, ?_⟩) hHeld ?_ ?_
    rotate_left
    ·intro w' hS
     have hx := (HCC.out w' hS).2.2.2.2.1
     go_simp
     with_reducible rfl
    rotate_left
    ·simp only [Act.put, lZa, lZb, lZc, i64_w, i32_w]
     rfl
    refine pure_ (i := 10) (N := some 66) (v := ?_) (a' := ?_) #[true, true, true, true, false, true, true, true, true, true, true, false, false, false, false, false, false, false, false] rfl rfl (by kernel_rfl) (fun _ _ _ h => h) (Or.inl ⟨by rfl, ?_⟩) ?_ ?_
    rotate_left
    ·intro w'
     go_simp
     with_reducible rfl
    rotate_left
    ·simp only [Act.put, lZa, lZb, lZc, i64_w, i32_w]
     rfl
    refine pure_ (i := 11) (N := some 67) (v := ?_) (a' := ?_) #[true, true, true, true, false, true, true, true, true, true, true, true, false, false, false, false, false, false, false] rfl rfl (by kernel_rfl) (fun _ _ _ h => h) (Or.inl ⟨by rfl, ?_⟩) ?_ ?_
    rotate_left
    ·intro w'
     go_simp
     with_reducible rfl
    rotate_left
    ·simp only [Act.put, lZa, lZb, lZc, i64_w, i32_w]
     rfl
    refine take_ (i := 12) (N := some 68) (v := ?_) (a' := ?_) #[true, true, true, true, false, true, true, true, true, true, true, true, true, false, false, false, false, false, false] rfl rfl (by kernel_rfl) (fun _ _ _ h => h) (Or.inl ⟨by rfl, ?_⟩) hHeld ?_ ?_
    rotate_left
    ·intro w' hS
     have hx := (HCC.out w' hS).2.2.1
     go_simp
     with_reducible rfl
    rotate_left
    ·simp only [Act.put, lZa, lZb, lZc, i64_w, i32_w]
     rfl
    refine one_ (i := 4) (N := some 60) #[true, true, true, true, true, true, true, true, true, true, true, true, true, false, false, false, false, false, false] rfl rfl (by kernel_rfl) (by decide) (fun K hK => ?_)
    refine goes_ Tryz.func59 (by kernel_rfl) rfl #[.slice A5 L5.length c5, .slice A8 L8.length c8] (by rfl) rfl rfl (by simp only [List.map_toArray, List.map_cons, List.map_nil]; rfl) ?_
    refine (sortedX_calls L5 L8 A5 A8 c5 c8 _ (Kd.R_lower (Kd.R_below HY.out.2.1 hHeld) (Nat.zero_le _)) (Kd.R_lower (Kd.R_below HY.out.2.2.1 hHeld) (Nat.zero_le _)) (by omega) (by omega)).mono ?_
    rintro e wt ⟨A9, c9, L9, rfl, hr9, hl9, hs9, hm9, hb9⟩
    have HTD9 := Aside0.mk (And.intro hs9 hm9)
    clear hs9 hm9
    have H9 := Aside0.mk (And.intro (Kd.R_lower hr9 hHeld.size) hl9)
    clear hr9 hl9
    refine ⟨_, rfl, ?_⟩
    refine hK.out _ _ (below_tr hHeld hb9 hHeld.size) (fun hHeld => ?_)
    clear hK K
    refine norm_ (a' := ?_) ?_ ?_
    rotate_left
    ·show Act.put _ (some 60) _ = _
     simp only [Act.put, lZa, lZb, lZc, i64_w, i32_w]
     rfl
    refine pure_ (i := 13) (N := some 69) (v := ?_) (a' := ?_) #[true, true, true, true, true, true, true, true, true, true, true, true, true, true, false, false, false, false, false] rfl rfl (by kernel_rfl) (fun _ _ _ h => h) (Or.inl ⟨by rfl, ?_⟩) ?_ ?_
    rotate_left
    ·intro w'
     go_simp
     with_reducible rfl
    rotate_left
    ·simp only [Act.put, lZa, lZb, lZc, i64_w, i32_w]
     rfl
    refine pure_ (i := 14) (N := some 70) (v := undef) (a' := ?_) #[true, true, true, true, true, true, true, true, true, true, true, true, true, true, true, false, false, false, false] rfl rfl (by kernel_rfl) (fun _ _ _ h => h) (Or.inr ⟨by rfl, rfl⟩) ?_ ?_
    rotate_left
    ·simp only [Act.put, lZa, lZb, lZc, i64_w, i32_w]
     rfl
    refine pure_ (i := 15) (N := some 71) (v := undef) (a' := ?_) #[true, true, true, true, true, true, true, true, true, true, true, true, true, true, true, true, false, false, false] rfl rfl (by kernel_rfl) (fun _ _ _ h => h) (Or.inr ⟨by rfl, rfl⟩) ?_ ?_
    rotate_left
    ·simp only [Act.put, lZa, lZb, lZc, i64_w, i32_w]
     rfl
    refine pure_ (i := 16) (N := some 72) (v := ?_) (a' := ?_) #[true, true, true, true, true, true, true, true, true, true, true, true, true, true, true, true, true, false, false] rfl rfl (by kernel_rfl) (fun _ _ _ h => h) (Or.inl ⟨by rfl, ?_⟩) ?_ ?_
    rotate_left
    ·intro w'
     go_simp
     with_reducible rfl
    rotate_left
    ·simp only [Act.put, lZa, lZb, lZc, i64_w, i32_w]
     rfl
    refine pure_ (i := 17) (N := some 73) (v := .agg (cF (.slice A9 L9.length c9) (wrap64 (wrap64 (1 + N5) + N8)) true)) (a' := ?_) #[true, true, true, true, true, true, true, true, true, true, true, true, true, true, true, true, true, true, false] rfl rfl (by kernel_rfl) (fun _ _ _ h => h) (Or.inl ⟨by rfl, fun w' => yield_built 38 _ rfl (cF (.slice A9 L9.length c9) (wrap64 (wrap64 (1 + N5) + N8)) true) [(0, .slice A9 L9.length c9), (1, .int .i64 (wrap64 (wrap64 (1 + N5) + N8))), (2, .bool true)] (by simp only [List.map_toArray, List.map_cons, List.map_nil]; rfl) (built_F3 _ _ _ _ _)⟩) ?_ ?_
    rotate_left
    ·simp only [Act.put, lZa, lZb, lZc, i64_w, i32_w]
     rfl
    have HF := Aside0.mk (And.intro (below_tr HY.out.1 hHeld HY.out.1.size) (Kd.R_lower H9.out.1 HY.out.1.size))
    have hlen := H9.out.2
    clear hHeld hb9
    refine tail_ 18 (by kernel_rfl) ?_
    simp only [List.toList_toArray, List.drop_succ_cons, List.drop_zero]
    go_wp2_with (first
     | ((with_reducible refine gate_store (t := 38) rfl ?_); (refine wpList_store_row rfl 38 (.tmp 6) (.tmp 73) rfl g (cF (.slice A9 L9.length c9) (wrap64 (wrap64 (1 + N5) + N8)) true) rfl rfl 38 Z ((HF.out.1.block _ (by have := HB.out.2.2.1; omega)).trans HB.out.1) (by kernel_rfl) HZ.out.2 (cF_one rfl) ?_)))
    refine bodyPost_ret (v := .agg (cF (.slice A9 L9.length c9) (wrap64 (wrap64 (1 + N5) + N8)) true)) ?_ rfl ⟨A9, c9, L9, (wrap64 (wrap64 (1 + N5) + N8)), by rw [HT3.out]; rfl, Kd.R_lower (R_setRow HF.out.2 (by have := HB.out.2.2.1; omega) _) HB.out.2.1.size, by omega, HJ.out L5 L8 L9 N5 N8 HTD5.out HTD8.out HTD9.out, below_setRow (HB.out.2.1.trans (HF.out.1.mono (by have := HB.out.2.1.size; omega))) (by have := HG.out; omega)⟩
    exact results_cell_row rfl _ _ g 38 _ (0, 0) _ rfl (setRow_heap _ _ _ _ _ _ ((HF.out.1.block _ (by have := HB.out.2.2.1; omega)).trans HB.out.1)) hu56 rfl (by kernel_rfl)
   | false =>
    refine start_ (n := 19) (S := fun w' => Below uy.heap.size uy w') (ds := [18]) #[false, false, false, false, false, false, false, false, false, false, false, false, false, false, false, false, false, false, false] (by kernel_rfl) rfl rfl (Below.refl _ _).drew (fun hHeld => ?_)
    refine pure_ (i := 0) (N := some 56) (v := ?_) (a' := ?_) #[true, false, false, false, false, false, false, false, false, false, false, false, false, false, false, false, false, false, false] rfl rfl (by kernel_rfl) (fun _ _ _ h => h) (Or.inl ⟨by rfl, ?_⟩) ?_ ?_
    rotate_left
    ·intro w'
     go_simp
     with_reducible rfl
    rotate_left
    ·simp only [Act.put, lZa, lZb, lZc, i64_w, i32_w]
     rfl
    refine take_ (i := 1) (N := some 57) (v := ?_) (a' := ?_) #[true, true, false, false, false, false, false, false, false, false, false, false, false, false, false, false, false, false, false] rfl rfl (by kernel_rfl) (fun _ _ _ h => h) (Or.inl ⟨by rfl, ?_⟩) hHeld ?_ ?_
    rotate_left
    ·intro w' hS
     have hx := (HCC.out w' hS).1
     go_simp
     with_reducible rfl
    rotate_left
    ·simp only [Act.put, lZa, lZb, lZc, i64_w, i32_w]
     rfl
    refine pure_ (i := 2) (N := some 58) (v := ?_) (a' := ?_) #[true, true, true, false, false, false, false, false, false, false, false, false, false, false, false, false, false, false, false] rfl rfl (by kernel_rfl) (fun _ _ _ h => h) (Or.inl ⟨by rfl, ?_⟩) ?_ ?_
    rotate_left
    ·intro w'
     go_simp
     with_reducible rfl
    rotate_left
    ·simp only [Act.put, lZa, lZb, lZc, i64_w, i32_w]
     rfl
    refine take_ (i := 3) (N := some 59) (v := ?_) (a' := ?_) #[true, true, true, true, false, false, false, false, false, false, false, false, false, false, false, false, false, false, false] rfl rfl (by kernel_rfl) (fun _ _ _ h => h) (Or.inl ⟨by rfl, ?_⟩) hHeld ?_ ?_
    rotate_left
    ·intro w' hS
     have hx := (HCC.out w' hS).2.2.2.1
     go_simp
     with_reducible rfl
    rotate_left
    ·simp only [Act.put, lZa, lZb, lZc, i64_w, i32_w]
     rfl
    refine pure_ (i := 5) (N := some 61) (v := ?_) (a' := ?_) #[true, true, true, true, false, true, false, false, false, false, false, false, false, false, false, false, false, false, false] rfl rfl (by kernel_rfl) (fun _ _ _ h => h) (Or.inl ⟨by rfl, ?_⟩) ?_ ?_
    rotate_left
    ·intro w'
     go_simp
     with_reducible rfl
    rotate_left
    ·simp only [Act.put, lZa, lZb, lZc, i64_w, i32_w]
     rfl
    refine take_ (i := 6) (N := some 62) (v := ?_) (a' := ?_) #[true, true, true, true, false, true, true, false, false, false, false, false, false, false, false, false, false, false, false] rfl rfl (by kernel_rfl) (fun _ _ _ h => h) (Or.inl ⟨by rfl, ?_⟩) hHeld ?_ ?_
    rotate_left
    ·intro w' hS
     have hx := (HCC.out w' hS).2.1
     go_simp
     with_reducible rfl
    rotate_left
    ·simp only [Act.put, lZa, lZb, lZc, i64_w, i32_w]
     rfl
    refine pure_ (i := 7) (N := some 63) (v := ?_) (a' := ?_) #[true, true, true, true, false, true, true, true, false, false, false, false, false, false, false, false, false, false, false] rfl rfl (by kernel_rfl) (fun _ _ _ h => h) (Or.inl ⟨by rfl, ?_⟩) ?_ ?_
    rotate_left
    ·intro w'
     go_simp
     with_reducible rfl
    rotate_left
    ·simp only [Act.put, lZa, lZb, lZc, i64_w, i32_w]
     rfl
    refine pure_ (i := 8) (N := some 64) (v := ?_) (a' := ?_) #[true, true, true, true, false, true, true, true, true, false, false, false, false, false, false, false, false, false, false] rfl rfl (by kernel_rfl) (fun _ _ _ h => h) (Or.inl ⟨by rfl, ?_⟩) ?_ ?_
    rotate_left
    ·intro w'
     go_simp
     with_reducible rfl
    rotate_left
    ·simp only [Act.put, lZa, lZb, lZc, i64_w, i32_w]
     rfl
    refine take_ (i := 9) (N := some 65) (v := ?_) (a' := ?_) #[true, true, true, true, false, true, true, true, true, true, false, false, false, false, false, false, false, false, false] rfl rfl (by kernel_rfl) (fun _ _ _ h => h) (Or.inl ⟨by rfl, ?_⟩) hHeld ?_ ?_
    rotate_left
    ·intro w' hS
     have hx := (HCC.out w' hS).2.2.2.2.1
     go_simp
     with_reducible rfl
    rotate_left
    ·simp only [Act.put, lZa, lZb, lZc, i64_w, i32_w]
     rfl
    refine pure_ (i := 10) (N := some 66) (v := ?_) (a' := ?_) #[true, true, true, true, false, true, true, true, true, true, true, false, false, false, false, false, false, false, false] rfl rfl (by kernel_rfl) (fun _ _ _ h => h) (Or.inl ⟨by rfl, ?_⟩) ?_ ?_
    rotate_left
    ·intro w'
     go_simp
     with_reducible rfl
    rotate_left
    ·simp only [Act.put, lZa, lZb, lZc, i64_w, i32_w]
     rfl
    refine pure_ (i := 11) (N := some 67) (v := ?_) (a' := ?_) #[true, true, true, true, false, true, true, true, true, true, true, true, false, false, false, false, false, false, false] rfl rfl (by kernel_rfl) (fun _ _ _ h => h) (Or.inl ⟨by rfl, ?_⟩) ?_ ?_
    rotate_left
    ·intro w'
     go_simp
     with_reducible rfl
    rotate_left
    ·simp only [Act.put, lZa, lZb, lZc, i64_w, i32_w]
     rfl
    refine take_ (i := 12) (N := some 68) (v := ?_) (a' := ?_) #[true, true, true, true, false, true, true, true, true, true, true, true, true, false, false, false, false, false, false] rfl rfl (by kernel_rfl) (fun _ _ _ h => h) (Or.inl ⟨by rfl, ?_⟩) hHeld ?_ ?_
    rotate_left
    ·intro w' hS
     have hx := (HCC.out w' hS).2.2.1
     go_simp
     with_reducible rfl
    rotate_left
    ·simp only [Act.put, lZa, lZb, lZc, i64_w, i32_w]
     rfl
    refine one_ (i := 4) (N := some 60) #[true, true, true, true, true, true, true, true, true, true, true, true, true, false, false, false, false, false, false] rfl rfl (by kernel_rfl) (by decide) (fun K hK => ?_)
    refine goes_ Tryz.func59 (by kernel_rfl) rfl #[.slice A5 L5.length c5, .slice A8 L8.length c8] (by rfl) rfl rfl (by simp only [List.map_toArray, List.map_cons, List.map_nil]; rfl) ?_
    refine (sortedX_calls L5 L8 A5 A8 c5 c8 _ (Kd.R_lower (Kd.R_below HY.out.2.1 hHeld) (Nat.zero_le _)) (Kd.R_lower (Kd.R_below HY.out.2.2.1 hHeld) (Nat.zero_le _)) (by omega) (by omega)).mono ?_
    rintro e wt ⟨A9, c9, L9, rfl, hr9, hl9, hs9, hm9, hb9⟩
    have HTD9 := Aside0.mk (And.intro hs9 hm9)
    clear hs9 hm9
    have H9 := Aside0.mk (And.intro (Kd.R_lower hr9 hHeld.size) hl9)
    clear hr9 hl9
    refine ⟨_, rfl, ?_⟩
    refine hK.out _ _ (below_tr hHeld hb9 hHeld.size) (fun hHeld => ?_)
    clear hK K
    refine norm_ (a' := ?_) ?_ ?_
    rotate_left
    ·show Act.put _ (some 60) _ = _
     simp only [Act.put, lZa, lZb, lZc, i64_w, i32_w]
     rfl
    refine pure_ (i := 13) (N := some 69) (v := ?_) (a' := ?_) #[true, true, true, true, true, true, true, true, true, true, true, true, true, true, false, false, false, false, false] rfl rfl (by kernel_rfl) (fun _ _ _ h => h) (Or.inl ⟨by rfl, ?_⟩) ?_ ?_
    rotate_left
    ·intro w'
     go_simp
     with_reducible rfl
    rotate_left
    ·simp only [Act.put, lZa, lZb, lZc, i64_w, i32_w]
     rfl
    refine pure_ (i := 14) (N := some 70) (v := ?_) (a' := ?_) #[true, true, true, true, true, true, true, true, true, true, true, true, true, true, true, false, false, false, false] rfl rfl (by kernel_rfl) (fun _ _ _ h => h) (Or.inl ⟨by rfl, ?_⟩) ?_ ?_
    rotate_left
    ·intro w'
     go_simp
     with_reducible rfl
    rotate_left
    ·simp only [Act.put, lZa, lZb, lZc, i64_w, i32_w]
     rfl
    refine take_ (i := 15) (N := some 71) (v := ?_) (a' := ?_) #[true, true, true, true, true, true, true, true, true, true, true, true, true, true, true, true, false, false, false] rfl rfl (by kernel_rfl) (fun _ _ _ h => h) (Or.inl ⟨by rfl, ?_⟩) hHeld ?_ ?_
    rotate_left
    ·intro w' hS
     have hx := (HCC.out w' hS).2.2.2.2.2
     go_simp
     with_reducible rfl
    rotate_left
    ·simp only [Act.put, lZa, lZb, lZc, i64_w, i32_w]
     rfl
    refine pure_ (i := 16) (N := some 72) (v := ?_) (a' := ?_) #[true, true, true, true, true, true, true, true, true, true, true, true, true, true, true, true, true, false, false] rfl rfl (by kernel_rfl) (fun _ _ _ h => h) (Or.inl ⟨by rfl, ?_⟩) ?_ ?_
    rotate_left
    ·intro w'
     go_simp
     with_reducible rfl
    rotate_left
    ·simp only [Act.put, lZa, lZb, lZc, i64_w, i32_w]
     rfl
    refine pure_ (i := 17) (N := some 73) (v := .agg (cF (.slice A9 L9.length c9) (wrap64 (wrap64 (1 + N5) + N8)) t1)) (a' := ?_) #[true, true, true, true, true, true, true, true, true, true, true, true, true, true, true, true, true, true, false] rfl rfl (by kernel_rfl) (fun _ _ _ h => h) (Or.inl ⟨by rfl, fun w' => yield_built 38 _ rfl (cF (.slice A9 L9.length c9) (wrap64 (wrap64 (1 + N5) + N8)) t1) [(0, .slice A9 L9.length c9), (1, .int .i64 (wrap64 (wrap64 (1 + N5) + N8))), (2, .bool t1)] (by simp only [List.map_toArray, List.map_cons, List.map_nil]; rfl) (built_F3 _ _ _ _ _)⟩) ?_ ?_
    rotate_left
    ·simp only [Act.put, lZa, lZb, lZc, i64_w, i32_w]
     rfl
    have HF := Aside0.mk (And.intro (below_tr HY.out.1 hHeld HY.out.1.size) (Kd.R_lower H9.out.1 HY.out.1.size))
    have hlen := H9.out.2
    clear hHeld hb9
    refine tail_ 18 (by kernel_rfl) ?_
    simp only [List.toList_toArray, List.drop_succ_cons, List.drop_zero]
    go_wp2_with (first
     | ((with_reducible refine gate_store (t := 38) rfl ?_); (refine wpList_store_row rfl 38 (.tmp 6) (.tmp 73) rfl g (cF (.slice A9 L9.length c9) (wrap64 (wrap64 (1 + N5) + N8)) t1) rfl rfl 38 Z ((HF.out.1.block _ (by have := HB.out.2.2.1; omega)).trans HB.out.1) (by kernel_rfl) HZ.out.2 (cF_one rfl) ?_)))
    refine bodyPost_ret (v := .agg (cF (.slice A9 L9.length c9) (wrap64 (wrap64 (1 + N5) + N8)) t1)) ?_ rfl ⟨A9, c9, L9, (wrap64 (wrap64 (1 + N5) + N8)), by rw [HT3.out]; rfl, Kd.R_lower (R_setRow HF.out.2 (by have := HB.out.2.2.1; omega) _) HB.out.2.1.size, by omega, HJ.out L5 L8 L9 N5 N8 HTD5.out HTD8.out HTD9.out, below_setRow (HB.out.2.1.trans (HF.out.1.mono (by have := HB.out.2.1.size; omega))) (by have := HG.out; omega)⟩
    exact results_cell_row rfl _ _ g 38 _ (0, 0) _ rfl (setRow_heap _ _ _ _ _ _ ((HF.out.1.block _ (by have := HB.out.2.2.1; omega)).trans HB.out.1)) hu56 rfl (by kernel_rfl)
theorem rdX_ind : ∀ (k d : Nat), 256 - d = k → d ≤ 256 → RdIsX d := by
 intro k
 induction k with
 | zero => exact fun d hk hd => rdX_step d hd (fun h => by omega)
 | succ k ih => exact fun d hk hd => rdX_step d hd (fun h => ih (d + 1) (by omega) (by omega))
end Go.Proofs.YtanabbjakacgbaaGreatDoor.Sp
namespace Go.Proofs.YtanabbjakacgbaaGreatDoor.Sp
open Go.RowKit Go.Proofs.YtanabbjakacgbaaGreatDoorW.PrintWords Go.Proofs.YtanabbjakacgbaaGreatDoorW.PrintLast Go.Proofs.YtanabbjakacgbaaGreatDoorW.PrintMore Go.Proofs.YtanabbjakacgbaaGreatDoor.PM
set_option linter.unusedVariables false
set_option linter.unusedSimpArgs false
set_option maxRecDepth 100000
attribute [local go_sem] Oper.semAt_some
theorem Told.is {L : List ByteArray} {N : Int} {l m : List Lf} (h : Told L N (cmpF 256 (itemsOf l) (itemsOf m) 0)) : L = (diffOf l m).1 ∧ N = ((diffOf l m).2 : Int) := by
 refine ⟨?_, h.2.2⟩
 refine pair_ext (R := fun x y : ByteArray => blt x y = true) blt_asy _ _ h.1 (canon_strict _) (fun k => ?_)
 rw [h.2.1]
 exact (canon_mem _ k).symm
theorem rdXd_calls (a b : List It) (Aa Ab : Option Addr) (ca cb : Nat) (w : World) (f1 : WfI a) (f2 : WfI b) (h1 : SmI a) (h2 : SmI b) (h3 : a.length ≤ 5000) (h4 : b.length ≤ 5000) (h5 : kI.C w Aa a.length a) (h6 : kI.C w Ab b.length b) (h7 : a.length ≤ ca) (h8 : b.length ≤ cb) (h : Bool) (hh : hidF 256 a b 0 = h) :
  Calls Tryz.prog 33 #[.slice Aa a.length ca, .slice Ab b.length cb, .int .i64 0] w (RdPostX w (a.length + b.length) h (cmpF 256 a b 0)) := by
 have := rdX_ind 256 0 rfl (by decide) a b Aa Ab ca cb w f1 f2 h1 h2 h3 h4 h5 h6 h7 h8
 rw [Nat.sub_zero, hh] at this
 exact this
theorem items4R_calls (l : List Lf) (A : Option Addr) (c : Nat) (w : World) (hr : kL.R 32 w 0 (fun _ => True) (.slice A l.length c) l) (hl : SmL l) (m : List It) (hm : itemsOf l = m) :
  Calls Tryz.prog 26 #[.slice A l.length c] w fun e w' => ∃ A' c', e = .returned (.slice A' m.length c') ∧ m.length ≤ c' ∧ kI.C w' A' m.length m ∧ Below w.heap.size w w' := by
 have h := items4_calls l A c w (R_C hr).2.2 (R_C hr).2.1 hl.small
 rw [hm] at h
 refine h.mono ?_
 rintro e w' ⟨v, rfl, h1, h2⟩
 obtain ⟨A', c', rfl, h3, h4⟩ := Kd.R_reads h1
 exact ⟨A', c', rfl, h3, h4, h2⟩
theorem Diff4X_calls (l m : List Lf) (A A2 : Option Addr) (c c2 : Nat) (w : World) (hrl : kL.R 32 w 0 (fun _ => True) (.slice A l.length c) l) (hrm : kL.R 32 w 0 (fun _ => True) (.slice A2 m.length c2) m) (hl : SmL l) (hm : SmL m) (hl1 : l.length ≤ 5000) (hm1 : m.length ≤ 5000) (d : List ByteArray × Nat) (hd : diffOf l m = d) :
  Calls Tryz.prog 9 #[.slice A l.length c, .slice A2 m.length c2] w fun e w' => ∃ A' c' h, e = .returned (.agg (cF (.slice A' d.1.length c') (d.2 : Int) h)) ∧ Kd.string.R 9 w' 0 (fun _ => True) (.slice A' d.1.length c') d.1 ∧ Below w.heap.size w w' := by
 obtain ⟨h, hh⟩ : ∃ h, hidF 256 (itemsOf l) (itemsOf m) 0 = h := ⟨_, rfl⟩
 have htold : ∀ L N, Told L N (cmpF 256 (itemsOf l) (itemsOf m) 0) → L = d.1 ∧ N = (d.2 : Int) := fun L N h => hd ▸ h.is
 have hu56 := Tryz.underlying38
 obtain ⟨g, hg⟩ : ∃ g, g = w.heap.size := ⟨_, rfl⟩
 obtain ⟨Z, hz56⟩ : ∃ Z, Z = cF (.slice none 0 0) 0 false := ⟨_, rfl⟩
 obtain ⟨wb, hwb⟩ : ∃ wb, wb = w.alloc (.cells Z 38) := ⟨_, rfl⟩
 have h0 : wb.heap[g]? = some (.cells Z 38 (0, 0)) := by rw [hwb]; exact h_new hg
 have hb : Below w.heap.size w wb := by rw [hwb]; exact below_alloc (Below.refl _ _) _
 have hs : wb.heap.size = g + 1 := by rw [hwb, size_alloc, hg]
 have HB := Aside0.mk (⟨h0, hb, hs, Kd.R_below hrl hb, Kd.R_below hrm hb⟩ : _ ∧ _ ∧ _ ∧ _ ∧ _)
 have HWB := Aside0.mk hwb
 have HG := Aside0.mk hg
 have HZ := Aside0.mk (And.intro (show ∀ w, (zeroValue 38).run Tryz.prog w = .ok (.agg Z) w by rw [hz56]; exact zero56) (show Z.size = 3 by rw [hz56]; rfl))
 obtain ⟨il, hil⟩ : ∃ x, itemsOf l = x := ⟨_, rfl⟩
 obtain ⟨im, him⟩ : ∃ x, itemsOf m = x := ⟨_, rfl⟩
 rw [hil, him] at htold
 have HTD := Aside0.mk htold
 have HWF := Aside0.mk (And.intro (show WfI il by rw [← hil]; exact WfI.of _) (show WfI im by rw [← him]; exact WfI.of _))
 have HL := Aside0.mk (⟨hl, hm, hil, him, by rw [← hil]; exact ⟨by rw [itemsOf, List.length_map]; exact hl.1, fun y hy => by
   rw [itemsOf, List.mem_map] at hy; obtain ⟨x, hx, rfl⟩ := hy; exact hl.2 x hx⟩, by rw [← him]; exact ⟨by rw [itemsOf, List.length_map]; exact hm.1, fun y hy => by
   rw [itemsOf, List.mem_map] at hy; obtain ⟨x, hx, rfl⟩ := hy; exact hm.2 x hx⟩, by rw [← hil, itemsOf, List.length_map]; exact hl1, by rw [← him, itemsOf, List.length_map]; exact hm1, by rw [← hil, ← him]; exact hh⟩ :
  SmL l ∧ SmL m ∧ itemsOf l = il ∧ itemsOf m = im ∧ SmI il ∧ SmI im ∧ il.length ≤ 5000 ∧ im.length ≤ 5000 ∧ hidF 256 il im 0 = h)
 clear hl hm hrl hrm hwb hb h0 hs hg hz56 hil him hh htold
 go_enter Tryz.func9, Tryz.ntmps9
 go_wp2_with (first
  | ((with_reducible refine gate_dst (N := 4) rfl ?_); (refine wpList_allocz rfl 38 Z rfl HZ.out.1 ?_); rw [← HWB.out, ← HG.out])
  | (go_at_call 26; (with_reducible refine (items4R_calls l A c wb HB.out.2.2.2.1 HL.out.1 il HL.out.2.2.1).mono ?_); rintro e w1 ⟨A1, c1, rfl, hc1, hr1, hb1⟩; have H1 := Aside0.mk (⟨hb1, hr1, Kd.R_below HB.out.2.2.2.2 hb1⟩ : _ ∧ _ ∧ _); clear hb1 hr1)
  | (go_at_call 26; (with_reducible refine (items4R_calls m A2 c2 w1 H1.out.2.2 HL.out.2.1 im HL.out.2.2.2.1).mono ?_); rintro e w2 ⟨A3, c3, rfl, hc3, hr3, hb3⟩; have H2 := Aside0.mk (⟨below_tr H1.out.1 hb3 H1.out.1.size, Kd.C_below H1.out.2.1 hb3, hr3⟩ : _ ∧ _ ∧ _); clear hb3 hr3)
  | (go_at_call 33; (with_reducible refine (rdXd_calls il im A1 A3 c1 c3 w2 HWF.out.1 HWF.out.2 HL.out.2.2.2.2.1 HL.out.2.2.2.2.2.1 HL.out.2.2.2.2.2.2.1 HL.out.2.2.2.2.2.2.2.1 H2.out.2.1 H2.out.2.2 hc1 hc3 h HL.out.2.2.2.2.2.2.2.2).mono ?_); rintro e w5 ⟨A5, c5, L5, N5, rfl, hr5, hl5, ht5, hb5⟩; have H5 := Aside0.mk (below_tr H2.out.1 hb5 H2.out.1.size); have HR5 := Aside0.mk (Kd.R_lower hr5 H2.out.1.size); have HT5 := Aside0.mk (HTD.out L5 N5 ht5); clear hr5 hb5 hl5 ht5)
  | ((with_reducible refine gate_store (t := 38) rfl ?_); (refine wpList_store_row rfl 38 (.tmp 4) (.tmp 9) rfl g (cF (.slice A5 L5.length c5) N5 h) rfl rfl 38 Z ((H5.out.block _ (by have := HB.out.2.2.1; omega)).trans HB.out.1) (by kernel_rfl) HZ.out.2 (cF_one rfl) ?_)))
 refine bodyPost_ret (v := .agg (cF (.slice A5 L5.length c5) N5 h)) ?_ rfl ⟨A5, c5, h, by rw [← HT5.out.1, ← HT5.out.2], by rw [← HT5.out.1]; exact Kd.R_lower (R_setRow HR5.out (by have := HB.out.2.2.1; have := HG.out; omega) _) (Nat.zero_le _), below_setRow (HB.out.2.1.trans (H5.out.mono (by have := HB.out.2.1.size; omega))) (by have := HG.out; omega)⟩
 exact results_cell_row rfl _ _ g 38 _ (0, 0) _ rfl (setRow_heap _ _ _ _ _ _ ((H5.out.block _ (by have := HB.out.2.2.1; omega)).trans HB.out.1)) hu56 rfl (by kernel_rfl)
theorem Made8_calls (a : List (Int × Int)) (ha : Oct a) (A : Option Addr) (c : Nat) (w : World) (hr : kQ.C w A a.length a) (hc : a.length ≤ c) (l : List Lf) (hl : madeOf (a.take 8) = l) :
  Calls Tryz.prog 5 #[.slice A a.length c, .int .i64 8] w fun e w' => ∃ A' c', e = .returned (.slice A' l.length c') ∧ kL.R 32 w' 0 (fun _ => True) (.slice A' l.length c') l ∧ Below w.heap.size w w' := by
 have h := Made_calls a ha 8 (by decide) A c w hr hc
 rw [hl] at h
 refine h.mono ?_
 rintro e w' ⟨v, rfl, hr2, hb2⟩
 obtain ⟨A', c', rfl⟩ := Kd.R_slice hr2
 exact ⟨A', c', rfl, Kd.R_lower hr2 (Nat.zero_le _), hb2⟩
theorem SameK_calls (l : List ByteArray) (A A2 : Option Addr) (c c2 : Nat) (w : World) (hr : Kd.string.R 9 w 0 (fun _ => True) (.slice A l.length c) l) (hr2 : Kd.string.R 9 w 0 (fun _ => True) (.slice A2 l.length c2) l) (hl : l.length ≤ 10000000) :
  Calls Tryz.prog 14 #[.slice A l.length c, .slice A2 l.length c2] w fun e w' => e = .returned (.bool true) ∧ Below w.heap.size w w' := by
 have h := SameKeys_calls l l A A2 c c2 0 0 _ _ w hr hr2 hl hl
 rw [decide_eq_true rfl] at h
 exact h
end Go.Proofs.YtanabbjakacgbaaGreatDoor.Sp

