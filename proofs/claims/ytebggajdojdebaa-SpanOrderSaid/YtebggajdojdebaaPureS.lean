/- What the operations on spans find, over numbers and lists alone: sets are told by their numbers. The shared part of the laws of spans. -/
import Derived.Test.YtebggajdojdebaaPSx5
import Derived.Test.YtebggajdojdebaaPSx2
import Derived.Test.YtebggajdojdebaaPSx6
import Derived.Test.YtebggajdojdebaaPSx8
import Derived.OpenShut
namespace Go.Proofs.Ytebggajdojdebaa.Pure
open Go.RowKit Go.Proofs.Ytebggajdojdebaa.PS Go.Proofs.YtebggajdojdebaaW.PrintWords Go.Proofs.YtebggajdojdebaaW.PrintLast Go.Proofs.YtebggajdojdebaaW.PrintMore

theorem wrap_id {n : Int} (h : -9223372036854775808 ≤ n) (h' : n ≤ 9223372036854775807) : wrap64 n = n := by
  unfold wrap64; omega
theorem Ev.now {α : Type} (r : α) : Ev (fun _ => some r) r := ⟨0, fun _ _ => rfl⟩
theorem Ev.pos {α : Type} {c : Prop} [Decidable c] {g f : Nat → Option α} {r : α} (h : c) (k : Ev g r) : Ev (fun n => if c then g n else f n) r := Ev.congr (fun _ => if_pos h) k
theorem Ev.neg {α : Type} {c : Prop} [Decidable c] {g f : Nat → Option α} {r : α} (h : ¬ c) (k : Ev f r) : Ev (fun n => if c then g n else f n) r := Ev.congr (fun _ => if_neg h) k
theorem Ev.ite {α : Type} {c : Prop} [Decidable c] {g f : Nat → Option α} {r : α} (h : c → Ev g r) (k : ¬ c → Ev f r) : Ev (fun n => if c then g n else f n) r := by
  by_cases hc : c
  · exact Ev.pos hc (h hc)
  · exact Ev.neg hc (k hc)
theorem Ev.round {α : Type} {g : Nat → Option α} {r : α} (k : Ev (fun n => g (n + 1)) r) : Ev g r := Ev.step (fun _ => rfl) k
theorem Ev.is {α : Type} {x : Option α} {r : α} (h : x = some r) : Ev (fun _ => x) r := ⟨0, fun _ _ => h⟩
theorem Ev.bind' {α β : Type} {x : Option α} {f : Nat → α → Option β} {a : α} {r : β} (h : x = some a) (k : Ev (fun n => f n a) r) : Ev (fun n => x.bind (f n)) r := Ev.bind (g := fun _ => x) (Ev.is h) k

/-! ### what the operations find -/
theorem cnt_zero (l : List S24) (n : Int) : (cnt l n == 0) = !memS l n := by
  have h1 := cnt_pos l n
  have h2 := cnt_nonneg l n
  cases hm : memS l n with
  | true => rw [hm] at h1; have := of_decide_eq_true h1; rw [Bool.not_true]; exact beq_eq_false_iff_ne.2 (by omega)
  | false => rw [hm] at h1; have := of_decide_eq_false h1; rw [Bool.not_false]; exact beq_iff_eq.2 (by omega)
theorem union_sem (a b : List S24) (ha : a.length ≤ 1073741824) (hb : b.length ≤ 1073741824) : CanonS (setF hasE a b) ∧ ∀ n, memS (setF hasE a b) n = (memS a n || memS b n) := by
  obtain ⟨h1, h2⟩ := setF_sem hasE rfl a b ha hb
  refine ⟨h1, fun n => ?_⟩
  rw [h2 n, ← cnt_pos a n, ← cnt_pos b n]
  unfold hasE
  by_cases h : 0 < cnt a n
  · rw [if_pos h, decide_eq_true h, Bool.true_or]
  · rw [if_neg h, decide_eq_false h, Bool.false_or]
theorem meet_sem (a b : List S24) (ha : a.length ≤ 1073741824) (hb : b.length ≤ 1073741824) : CanonS (setF hasB a b) ∧ ∀ n, memS (setF hasB a b) n = (memS a n && memS b n) := by
  obtain ⟨h1, h2⟩ := setF_sem hasB rfl a b ha hb
  refine ⟨h1, fun n => ?_⟩
  rw [h2 n, ← cnt_pos a n, ← cnt_pos b n]
  unfold hasB
  by_cases h : 0 < cnt a n
  · rw [if_pos h, decide_eq_true h, Bool.true_and]
  · rw [if_neg h, decide_eq_false h, Bool.false_and]
theorem minus_sem (a b : List S24) (ha : a.length ≤ 1073741824) (hb : b.length ≤ 1073741824) : CanonS (setF hasO a b) ∧ ∀ n, memS (setF hasO a b) n = (memS a n && !memS b n) := by
  obtain ⟨h1, h2⟩ := setF_sem hasO rfl a b ha hb
  refine ⟨h1, fun n => ?_⟩
  rw [h2 n, ← cnt_pos a n, ← cnt_zero b n]
  unfold hasO
  by_cases h : 0 < cnt a n
  · rw [if_pos h, decide_eq_true h, Bool.true_and]
  · rw [if_neg h, decide_eq_false h, Bool.false_and]
theorem memS_nil (n : Int) : memS [] n = false := rfl
theorem norm_sem (a : List S24) (ha : a.length ≤ 1073741824) : CanonS (setF hasE a []) ∧ ∀ n, memS (setF hasE a []) n = memS a n := by
  obtain ⟨h1, h2⟩ := union_sem a [] ha (by simp)
  exact ⟨h1, fun n => by rw [h2 n, memS_nil, Bool.or_false]⟩
theorem norm_f (a : List S24) (ha : a.length ≤ 1073741824) : span_Norm.f a = some (setF hasE a []) := if_pos ha
theorem union_f (a b : List S24) (ha : a.length ≤ 1073741824) (hb : b.length ≤ 1073741824) : span_Union.f a b = some (setF hasE a b) := if_pos ⟨ha, hb⟩
theorem meet_f (a b : List S24) (ha : a.length ≤ 1073741824) (hb : b.length ≤ 1073741824) : span_Meet.f a b = some (setF hasB a b) := if_pos ⟨ha, hb⟩
theorem minus_f (a b : List S24) (ha : a.length ≤ 1073741824) (hb : b.length ≤ 1073741824) : span_Minus.f a b = some (setF hasO a b) := if_pos ⟨ha, hb⟩
theorem has_f (a : List S24) (n : Int) : span_Has.f a n = some (memS a n) := rfl

/-- Whether a list covers a span. -/
def cov (l : List S24) (x : S24) : Bool := ((setF hasO [x] l).length : Int) == 0
theorem covers_f (l : List S24) (a b : Int) (hl : l.length ≤ 1073741824) : span_Covers.f l a b = some (cov l ⟨a, b⟩) := by
  unfold span_Covers.f
  rw [minus_f _ _ (by simp) hl]; rfl
theorem canon_nil_iff {R : List S24} (h : CanonS R) : R = [] ↔ ∀ n, memS R n = false := by
  refine ⟨fun e n => by rw [e]; rfl, fun hn => ?_⟩
  cases R with
  | nil => rfl
  | cons s R =>
    have h1 := hn s.f0
    rw [(memS_iff _ _).2 ⟨s, List.mem_cons_self, Int.le_refl _, h.pos s List.mem_cons_self⟩] at h1; cases h1
theorem memS_one (x : S24) (n : Int) : memS [x] n = spanHas x n := by simp [memS]
theorem cov_iff (l : List S24) (x : S24) (hl : l.length ≤ 1073741824) : cov l x = true ↔ ∀ n, x.f0 ≤ n → n < x.f1 → memS l n = true := by
  obtain ⟨h1, h2⟩ := minus_sem [x] l (by simp) hl
  unfold cov
  rw [beq_iff_eq]
  have e : ((setF hasO [x] l).length : Int) = 0 ↔ setF hasO [x] l = [] := by rw [← List.length_eq_zero_iff]; omega
  rw [e, canon_nil_iff h1]
  refine ⟨fun h n g1 g2 => ?_, fun h n => ?_⟩
  · have h3 := h n
    rw [h2 n, memS_one, (spanHas_iff x n).2 ⟨g1, g2⟩, Bool.true_and] at h3
    simpa using h3
  · rw [h2 n, memS_one]
    cases hx : spanHas x n with
    | true => obtain ⟨g1, g2⟩ := (spanHas_iff x n).1 hx; rw [h n g1 g2]; rfl
    | false => rfl

/-! ### the loops -/
instance : DecidableEq S24 := fun p q => decidable_of_iff (p.f0 = q.f0 ∧ p.f1 = q.f1) ⟨fun h => by obtain ⟨a, b⟩ := p; obtain ⟨d, e⟩ := q; obtain ⟨h1, h2⟩ := h; dsimp only at h1 h2; rw [h1, h2], fun h => by rw [h]; exact ⟨rfl, rfl⟩⟩
theorem ne_24 (p q : S24) : ((!((p.f0) == (q.f0))) || (!((p.f1) == (q.f1)))) = decide (p ≠ q) := by
  obtain ⟨a, b⟩ := p
  obtain ⟨d, e⟩ := q
  rw [Bool.eq_iff_iff]
  simp only [Bool.or_eq_true, Bool.not_eq_true', beq_eq_false_iff_ne, decide_eq_true_eq, ne_eq, S24.mk.injEq]
  omega
theorem rd_get {l : List S24} {i : Nat} (h : i < l.length) : rd_T24 l (i : Int) = l[i] := by
  unfold rd_T24
  rw [Int.toNat_natCast, List.getD_eq_getElem?_getD, List.getElem?_eq_getElem h]; rfl
theorem drop_eq_iff {α : Type} [DecidableEq α] {a b : List α} {i : Nat} (ha : i < a.length) (hb : i < b.length) : decide (a.drop i = b.drop i) = if a[i] ≠ b[i] then false else decide (a.drop (i + 1) = b.drop (i + 1)) := by
  have ea := List.drop_eq_getElem_cons ha
  have eb := List.drop_eq_getElem_cons hb
  by_cases h : a[i] = b[i]
  · rw [if_neg (fun k => k h), decide_eq_decide, ea, eb, h]
    exact ⟨fun k => (List.cons.inj k).2, fun k => by rw [k]⟩
  · rw [if_pos h, decide_eq_false]
    intro k
    rw [ea, eb] at k
    exact h (List.cons.inj k).1
theorem same_any (a b : List S24) (hl : a.length = b.length) (hm : a.length ≤ 4611686018427387904) : ∀ (d i : Nat), i ≤ a.length → a.length - i = d → Ev (fun k => r11_Same.l0 k a b (i : Int)) (decide (a.drop i = b.drop i)) := by
  intro d
  induction d with
  | zero =>
    intro i h1 hd
    refine Ev.round ?_
    simp only [r11_Same.l0]
    refine Ev.neg (by omega) ?_
    rw [List.drop_of_length_le (by omega), List.drop_of_length_le (by omega)]
    exact Ev.now _
  | succ d ih =>
    intro i h1 hd
    refine Ev.round ?_
    simp only [r11_Same.l0, ne_24, decide_eq_true_eq]
    rw [rd_get (by omega), rd_get (l := b) (by omega), wrap_id (by omega) (by omega), drop_eq_iff (a := a) (by omega) (by omega)]
    refine Ev.pos (by omega) (Ev.pos (by omega) (Ev.pos (by omega) ?_))
    by_cases h : a[i] ≠ b[i]
    · rw [if_pos h]; exact Ev.pos h (Ev.now _)
    · rw [if_neg h]; exact Ev.neg h (ih (i + 1) (by omega) (by omega))
theorem same_ev (a b : List S24) (hm : a.length ≤ 4611686018427387904) : Ev (fun k => r11_Same.f k a b) (decide (a = b)) := by
  unfold r11_Same.f
  by_cases h : a.length = b.length
  · refine Ev.pos (by omega) ?_
    exact same_any a b h hm a.length 0 (by omega) (by omega)
  · refine Ev.neg (by omega) ?_
    rw [decide_eq_false (fun e => h (by rw [e]))]
    exact Ev.now _
/-- Two sets of the same numbers are the same. -/
theorem same_sets {a b : List S24} (ha : CanonS a) (hb : CanonS b) (h : ∀ n, memS a n = memS b n) (hm : a.length ≤ 4611686018427387904) : Ev (fun k => r11_Same.f k a b) true := by
  have := same_ev a b hm
  rwa [decide_eq_true (canonS_eq a b ha hb h)] at this

theorem drop_rd (l : List S24) (i : Int) (h0 : 0 ≤ i) (h1 : i < (l.length : Int)) : l.drop i.toNat = rd_T24 l i :: l.drop (i + 1).toNat := drop_stepS l z24 i h0 h1
theorem rd_mem {l : List S24} {i : Int} (h0 : 0 ≤ i) (h1 : i < (l.length : Int)) : rd_T24 l i ∈ l := by
  unfold rd_T24
  rw [List.getD_eq_getElem?_getD, List.getElem?_eq_getElem (by omega)]
  exact List.getElem_mem _
theorem canon_next {R : List S24} (h : CanonS R) {i : Int} (h0 : 0 < i) (h1 : i < (R.length : Int)) : (rd_T24 R (i - 1)).f1 < (rd_T24 R i).f0 := by
  have := List.pairwise_iff_getElem.1 h.apart (i - 1).toNat i.toNat (by omega) (by omega) (by omega)
  unfold rd_T24
  rw [List.getD_eq_getElem?_getD, List.getElem?_eq_getElem (by omega), List.getD_eq_getElem?_getD, List.getElem?_eq_getElem (by omega)]
  exact this
theorem rvalid_any {R : List S24} (h : CanonS R) (hm : R.length ≤ 4611686018427387904) : ∀ (d : Nat) (i : Int), 0 ≤ i → i ≤ R.length → (R.length : Int) - i = d → Ev (fun k => r11_Valid.l0 k R i) true := by
  intro d
  induction d with
  | zero =>
    intro i h0 h1 hd
    refine Ev.round ?_
    simp only [r11_Valid.l0]
    exact Ev.neg (by omega) (Ev.now _)
  | succ d ih =>
    intro i h0 h1 hd
    have hp := h.pos _ (rd_mem h0 (show i < (R.length : Int) by omega))
    have hw : wrap64 (i + 1) = i + 1 := wrap_id (by omega) (by omega)
    have ih' := ih (i + 1) (by omega) (by omega) (by omega)
    refine Ev.round ?_
    simp only [r11_Valid.l0, hw]
    refine Ev.pos (by omega) (Ev.pos h0 (Ev.neg (by omega) ?_))
    by_cases hi : i > 0
    · have hn := canon_next h hi (by omega)
      rw [wrap_id (n := i - 1) (by omega) (by omega)]
      exact Ev.pos hi (Ev.pos (by omega) (Ev.pos (by omega) (Ev.neg (by omega) ih')))
    · exact Ev.neg hi ih'
theorem rvalid_ev {R : List S24} (h : CanonS R) (hm : R.length ≤ 4611686018427387904) : Ev (fun k => r11_Valid.f k R) true := rvalid_any h hm R.length 0 (by omega) (by omega) (by omega)
theorem valid_any {R : List S24} (h : CanonS R) (hm : R.length ≤ 4611686018427387904) : ∀ (d : Nat) (i : Int), 0 ≤ i → i ≤ R.length → (R.length : Int) - i = d → Ev (fun k => span_Valid.l0 k R R (R.length : Int) i) true := by
  intro d
  induction d with
  | zero =>
    intro i h0 h1 hd
    refine Ev.round ?_
    simp only [span_Valid.l0]
    exact Ev.neg (by omega) (Ev.now _)
  | succ d ih =>
    intro i h0 h1 hd
    have hp := h.pos _ (rd_mem h0 (show i < (R.length : Int) by omega))
    have hw : wrap64 (i + 1) = i + 1 := wrap_id (by omega) (by omega)
    have ih' := ih (i + 1) (by omega) (by omega) (by omega)
    refine Ev.round ?_
    simp only [span_Valid.l0, hw]
    refine Ev.pos (by omega) (Ev.pos h0 (Ev.pos (by omega) (Ev.neg (by omega) ?_)))
    by_cases hi : i > 0
    · have hn := canon_next h hi (by omega)
      rw [wrap_id (n := i - 1) (by omega) (by omega)]
      exact Ev.pos hi (Ev.pos (by omega) (Ev.pos (by omega) (Ev.neg (by omega) ih')))
    · exact Ev.neg hi ih'
theorem valid_ev {R : List S24} (h : CanonS R) (hm : R.length ≤ 4611686018427387904) : Ev (fun k => span_Valid.f k R) true := valid_any h hm R.length 0 (by omega) (by omega) (by omega)
theorem rhas_any (l : List S24) (n : Int) (hm : l.length ≤ 4611686018427387904) : ∀ (d : Nat) (i : Int), 0 ≤ i → i ≤ l.length → (l.length : Int) - i = d → Ev (fun k => r11_Has.l0 k l n i) (memS (l.drop i.toNat) n) := by
  intro d
  induction d with
  | zero =>
    intro i h0 h1 hd
    refine Ev.round ?_
    simp only [r11_Has.l0]
    rw [List.drop_of_length_le (by omega)]
    exact Ev.neg (by omega) (Ev.now _)
  | succ d ih =>
    intro i h0 h1 hd
    have hw : wrap64 (i + 1) = i + 1 := wrap_id (by omega) (by omega)
    have ih' := ih (i + 1) (by omega) (by omega) (by omega)
    rw [drop_rd l i h0 (by omega), show memS (rd_T24 l i :: l.drop (i + 1).toNat) n = (spanHas (rd_T24 l i) n || memS (l.drop (i + 1).toNat) n) from rfl]
    have hs := spanHas_iff (rd_T24 l i) n
    refine Ev.round ?_
    simp only [r11_Has.l0, hw]
    refine Ev.pos (by omega) (Ev.pos h0 (Ev.ite (fun g1 => Ev.ite (fun g2 => ?_) (fun g2 => ?_)) (fun g1 => ?_)))
    · rw [hs.2 ⟨g1, g2⟩]; exact Ev.now _
    · rw [show spanHas (rd_T24 l i) n = false by rw [← Bool.not_eq_true, hs]; omega]; exact ih'
    · rw [show spanHas (rd_T24 l i) n = false by rw [← Bool.not_eq_true, hs]; omega]; exact ih'
theorem rhas_ev (l : List S24) (n : Int) (hm : l.length ≤ 4611686018427387904) : Ev (fun k => r11_Has.f k l n) (memS l n) := rhas_any l n hm l.length 0 (by omega) (by omega) (by omega)

theorem short_f (l : List S24) : l11_short.f l = some (l.take 12) := by
  unfold l11_short.f
  simp only [Option.bind_some, List.nil_append, List.length_nil]
  have e : mn (l.length : Int) 12 = ((min l.length 12 : Nat) : Int) := by unfold mn; omega
  rw [e, if_pos (by omega), if_pos (by omega)]
  rw [Int.toNat_natCast, if_pos (by rw [List.length_take]; omega)]
  congr 1
  by_cases h : l.length ≤ 12
  · rw [List.take_of_length_le (by omega), List.take_of_length_le h]
  · rw [Nat.min_eq_right (by omega)]
theorem sane_ev : Ev l11_sanity.f true := Ev.of (fun k => l11_sanity.mono k) (k := 40) (by decide +kernel)

/-! ### how many spans a set has -/
theorem nodup_sub : ∀ {A B : List Int}, A.Nodup → (∀ x ∈ A, x ∈ B) → A.length ≤ B.length
  | [], _, _, _ => Nat.zero_le _
  | x :: A, B, h, hs => by
    have h1 := List.nodup_cons.1 h
    have hx := hs x List.mem_cons_self
    have := nodup_sub (A := A) (B := B.erase x) h1.2 (fun y hy => (List.mem_erase_of_ne (fun e => h1.1 (by rw [← e]; exact hy))).2 (hs y (List.mem_cons_of_mem _ hy)))
    rw [List.length_erase_of_mem hx] at this
    have hp : 0 < B.length := List.length_pos_of_mem hx
    rw [List.length_cons]; omega
theorem canon_two {R : List S24} (h : CanonS R) {s t : S24} (hs : s ∈ R) (ht : t ∈ R) : s = t ∨ s.f1 < t.f0 ∨ t.f1 < s.f0 := by
  obtain ⟨i, hi, rfl⟩ := List.mem_iff_getElem.1 hs
  obtain ⟨j, hj, rfl⟩ := List.mem_iff_getElem.1 ht
  have hp := List.pairwise_iff_getElem.1 h.apart
  rcases Nat.lt_trichotomy i j with hij | rfl | hij
  · exact .inr (.inl (hp i j hi hj hij))
  · exact .inl rfl
  · exact .inr (.inr (hp j i hj hi hij))
theorem canon_fresh {R : List S24} (h : CanonS R) {s : S24} (hs : s ∈ R) : memS R s.f0 = true ∧ memS R (s.f0 - 1) = false := by
  refine ⟨(memS_iff _ _).2 ⟨s, hs, Int.le_refl _, h.pos s hs⟩, (memS_false _ _).2 (fun t ht h2 => ?_)⟩
  have p1 := h.pos s hs
  rcases canon_two h hs ht with rfl | h3 | h3 <;> omega
theorem canon_len {R : List S24} (h : CanonS R) (C : List Int) (hc : ∀ s ∈ R, s.f0 ∈ C) : R.length ≤ C.length := by
  have hn : (R.map S24.f0).Nodup := by
    rw [List.nodup_iff_pairwise_ne, List.pairwise_map]
    exact h.apart.imp_of_mem (fun {a b} ha _ hab => by have := h.pos a ha; omega)
  have := nodup_sub hn (B := C) (fun x hx => by obtain ⟨s, hs, rfl⟩ := List.mem_map.1 hx; exact hc s hs)
  rwa [List.length_map] at this
theorem start_mem {a : List S24} {n : Int} (h1 : memS a n = true) (h2 : memS a (n - 1) = false) : n ∈ a.map S24.f0 := by
  obtain ⟨s, hs, g1, g2⟩ := (memS_iff _ _).1 h1
  have := (memS_false _ _).1 h2 s hs
  have e : s.f0 = n := by omega
  rw [← e]; exact List.mem_map_of_mem hs
theorem end_mem {a : List S24} {n : Int} (h1 : memS a n = false) (h2 : memS a (n - 1) = true) : n ∈ a.map S24.f1 := by
  obtain ⟨s, hs, g1, g2⟩ := (memS_iff _ _).1 h2
  have := (memS_false _ _).1 h1 s hs
  have e : s.f1 = n := by omega
  rw [← e]; exact List.mem_map_of_mem hs
theorem union_len (a b : List S24) (ha : a.length ≤ 1073741824) (hb : b.length ≤ 1073741824) : (setF hasE a b).length ≤ a.length + b.length := by
  obtain ⟨h1, h2⟩ := union_sem a b ha hb
  have := canon_len h1 (a.map S24.f0 ++ b.map S24.f0) (fun s hs => by
    obtain ⟨g1, g2⟩ := canon_fresh h1 hs
    rw [h2] at g1 g2
    rw [Bool.or_eq_false_iff] at g2
    rcases Bool.or_eq_true_iff.1 g1 with g1 | g1
    · exact List.mem_append_left _ (start_mem g1 g2.1)
    · exact List.mem_append_right _ (start_mem g1 g2.2))
  simpa using this
theorem meet_len (a b : List S24) (ha : a.length ≤ 1073741824) (hb : b.length ≤ 1073741824) : (setF hasB a b).length ≤ a.length + b.length := by
  obtain ⟨h1, h2⟩ := meet_sem a b ha hb
  have := canon_len h1 (a.map S24.f0 ++ b.map S24.f0) (fun s hs => by
    obtain ⟨g1, g2⟩ := canon_fresh h1 hs
    rw [h2] at g1 g2
    rw [Bool.and_eq_true] at g1
    rcases Bool.and_eq_false_iff.1 g2 with g2 | g2
    · exact List.mem_append_left _ (start_mem g1.1 g2)
    · exact List.mem_append_right _ (start_mem g1.2 g2))
  simpa using this
theorem minus_len (a b : List S24) (ha : a.length ≤ 1073741824) (hb : b.length ≤ 1073741824) : (setF hasO a b).length ≤ a.length + b.length := by
  obtain ⟨h1, h2⟩ := minus_sem a b ha hb
  have := canon_len h1 (a.map S24.f0 ++ b.map S24.f1) (fun s hs => by
    obtain ⟨g1, g2⟩ := canon_fresh h1 hs
    rw [h2] at g1 g2
    rw [Bool.and_eq_true] at g1
    rcases Bool.and_eq_false_iff.1 g2 with g2 | g2
    · exact List.mem_append_left _ (start_mem g1.1 g2)
    · exact List.mem_append_right _ (end_mem (by simpa using g1.2) (by simpa using g2)))
  simpa using this
theorem norm_len (a : List S24) (ha : a.length ≤ 1073741824) : (setF hasE a []).length ≤ a.length := by simpa using union_len a [] ha (by simp)

theorem mem_take {l : List S24} {n : Nat} {s : S24} (h : s ∈ l.take n) : s ∈ l := List.mem_of_mem_take h
def I8 (x : S49) : Prop := ((Lit.int .i8 x.f0).wf = true) ∧ ((Lit.int .i8 x.f1).wf = true)
/-- The small lists. -/
structure Tiny (l : List S24) : Prop where
  len : l.length ≤ 8
  b0 : ∀ s ∈ l, -20 ≤ s.f0 ∧ s.f0 ≤ 20
  b1 : ∀ s ∈ l, -20 ≤ s.f1 ∧ s.f1 ≤ 20
theorem tmod_small (a : Int) : -20 ≤ Int.tmod a 21 ∧ Int.tmod a 21 ≤ 20 := by
  have h1 := Int.tmod_lt_of_pos a (show (0 : Int) < 21 by decide)
  have h2 := Int.lt_tmod_of_pos a (show (0 : Int) < 21 by decide)
  omega
theorem made_any (x0 : List S49) (hx : ∀ x ∈ x0, I8 x) : ∀ (d : Nat) (i : Int) (l : List S24), 0 ≤ i → i ≤ 8 → 8 - i = d → i ≤ x0.length → (l.length : Int) = i → (∀ s ∈ l, (-20 ≤ s.f0 ∧ s.f0 ≤ 20) ∧ -20 ≤ s.f1 ∧ s.f1 ≤ 20) →
    ∃ a, Tiny a ∧ Ev (fun k => r11_Made.l0 k x0 l i) a := by
  have done : ∀ (i : Int) (l : List S24), i ≤ 8 → (l.length : Int) = i → (∀ s ∈ l, (-20 ≤ s.f0 ∧ s.f0 ≤ 20) ∧ -20 ≤ s.f1 ∧ s.f1 ≤ 20) → Tiny l := fun i l hi hl hp => ⟨by omega, fun s hs => (hp s hs).1, fun s hs => (hp s hs).2⟩
  intro d
  induction d with
  | zero =>
    intro i l h0 h8 hd hi hl hp
    refine ⟨l, done i l h8 hl hp, Ev.round ?_⟩
    simp only [r11_Made.l0]
    exact Ev.ite (fun _ => Ev.neg (by omega) (Ev.now _)) (fun _ => Ev.now _)
  | succ d ih =>
    intro i l h0 h8 hd hi hl hp
    by_cases hlt : i < (x0.length : Int)
    · have hu : I8 (rd_T49 x0 i) := by
        refine hx _ ?_
        unfold rd_T49
        rw [List.getD_eq_getElem?_getD, List.getElem?_eq_getElem (by omega)]
        exact List.getElem_mem _
      have u0 := bounds_i8 hu.1
      have u1 := bounds_i8 hu.2
      have t0 := tmod_small (rd_T49 x0 i).f0
      have t1 := tmod_small (rd_T49 x0 i).f1
      obtain ⟨a, h1, h2⟩ := ih (i + 1) (l ++ [⟨Int.tmod (rd_T49 x0 i).f0 21, Int.tmod (rd_T49 x0 i).f1 21⟩]) (by omega) (by omega) (by omega) (by omega) (by simp; omega) (by
        intro s hs
        rcases List.mem_append.1 hs with hs | hs
        · exact hp s hs
        · rw [List.mem_singleton] at hs; subst hs; exact ⟨t0, t1⟩)
      refine ⟨a, h1, Ev.round ?_⟩
      simp only [r11_Made.l0]
      rw [wrap_id (n := (rd_T49 x0 i).f0) (by omega) (by omega), wrap_id (n := (rd_T49 x0 i).f1) (by omega) (by omega), wrap_id (n := i + 1) (by omega) (by omega)]
      exact Ev.pos hlt (Ev.pos (by omega) (Ev.pos h0 (Ev.pos (by omega) h2)))
    · refine ⟨l, done i l h8 hl hp, Ev.round ?_⟩
      simp only [r11_Made.l0]
      exact Ev.neg hlt (Ev.now _)
theorem made_ev (x0 : List S49) (h : x0.length ≤ maxLen ∧ x0.length * 2 ≤ 140737488351232 ∧ ∀ x1_ ∈ x0, ((Lit.int .i8 x1_.f0).wf = true) ∧ ((Lit.int .i8 x1_.f1).wf = true)) : ∃ a, Tiny a ∧ Ev (fun k => r11_Made.f k x0) a :=
  made_any x0 h.2.2 8 0 [] (by omega) (by omega) (by omega) (by omega) rfl (fun _ hs => (by cases hs))

/-! ### sets that are told by their numbers -/
structure Box (X : List S24) (N : Nat) (f : Int → Bool) : Prop where
  len : X.length ≤ N
  has : ∀ n, memS X n = f n
theorem Box.self (X : List S24) {N : Nat} (h : X.length ≤ N) : Box X N (memS X) := ⟨h, fun _ => rfl⟩
theorem Box.union {a b : List S24} {N M : Nat} {f g : Int → Bool} (ha : Box a N f) (hb : Box b M g) (h : N ≤ 1073741824) (h' : M ≤ 1073741824) : span_Union.f a b = some (setF hasE a b) ∧ CanonS (setF hasE a b) ∧ Box (setF hasE a b) (N + M) (fun n => f n || g n) := by
  have l1 := ha.len; have l2 := hb.len
  obtain ⟨c, m⟩ := union_sem a b (by omega) (by omega)
  exact ⟨union_f a b (by omega) (by omega), c, by have := union_len a b (by omega) (by omega); omega, fun n => by rw [m, ha.has, hb.has]⟩
theorem Box.meet {a b : List S24} {N M : Nat} {f g : Int → Bool} (ha : Box a N f) (hb : Box b M g) (h : N ≤ 1073741824) (h' : M ≤ 1073741824) : span_Meet.f a b = some (setF hasB a b) ∧ CanonS (setF hasB a b) ∧ Box (setF hasB a b) (N + M) (fun n => f n && g n) := by
  have l1 := ha.len; have l2 := hb.len
  obtain ⟨c, m⟩ := meet_sem a b (by omega) (by omega)
  exact ⟨meet_f a b (by omega) (by omega), c, by have := meet_len a b (by omega) (by omega); omega, fun n => by rw [m, ha.has, hb.has]⟩
theorem Box.minus {a b : List S24} {N M : Nat} {f g : Int → Bool} (ha : Box a N f) (hb : Box b M g) (h : N ≤ 1073741824) (h' : M ≤ 1073741824) : span_Minus.f a b = some (setF hasO a b) ∧ CanonS (setF hasO a b) ∧ Box (setF hasO a b) (N + M) (fun n => f n && !g n) := by
  have l1 := ha.len; have l2 := hb.len
  obtain ⟨c, m⟩ := minus_sem a b (by omega) (by omega)
  exact ⟨minus_f a b (by omega) (by omega), c, by have := minus_len a b (by omega) (by omega); omega, fun n => by rw [m, ha.has, hb.has]⟩
theorem Box.norm {a : List S24} {N : Nat} {f : Int → Bool} (ha : Box a N f) (h : N ≤ 1073741824) : span_Norm.f a = some (setF hasE a []) ∧ CanonS (setF hasE a []) ∧ Box (setF hasE a []) N f := by
  have l1 := ha.len
  obtain ⟨c, m⟩ := norm_sem a (by omega)
  exact ⟨norm_f a (by omega), c, by have := norm_len a (by omega); omega, fun n => by rw [m, ha.has]⟩
theorem Box.same {a b : List S24} {N M : Nat} {f g : Int → Bool} (ha : Box a N f) (hb : Box b M g) (ca : CanonS a) (cb : CanonS b) (h : N ≤ 1073741824) (e : ∀ n, f n = g n) : Ev (fun k => r11_Same.f k a b) true := by
  have := ha.len
  exact same_sets ca cb (fun n => by rw [ha.has, hb.has, e]) (by omega)
theorem take_box (l : List S24) : Box (l.take 12) 12 (memS (l.take 12)) := Box.self _ (by rw [List.length_take]; omega)
end Go.Proofs.Ytebggajdojdebaa.Pure
