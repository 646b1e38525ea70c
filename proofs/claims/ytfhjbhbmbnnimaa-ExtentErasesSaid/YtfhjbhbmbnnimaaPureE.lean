/- What bodies are, over numbers and lists alone: a body is told by its bytes; joining, cutting and putting pieces is joining, cutting and putting bytes. The shared part of the laws of extents. -/
import Derived.Test.YtfhjbhbmbnnimaaPEx9
import Derived.Test.YtfhjbhbmbnnimaaPEx11
import Derived.Test.YtfhjbhbmbnnimaaPEx12
import Derived.Test.YtfhjbhbmbnnimaaPEx13
import Derived.Test.YtfhjbhbmbnnimaaPEx14
import Derived.OpenShut
namespace Go.Proofs.Ytfhjbhbmbnnimaa.Pure
open Go.RowKit Go.Proofs.Ytfhjbhbmbnnimaa.PE Go.Proofs.YtfhjbhbmbnnimaaW.PrintWords Go.Proofs.YtfhjbhbmbnnimaaW.PrintLast Go.Proofs.YtfhjbhbmbnnimaaW.PrintMore

theorem wrap_id {n : Int} (h : -9223372036854775808 ≤ n) (h' : n ≤ 9223372036854775807) : wrap64 n = n := by
  unfold wrap64; omega
theorem Ev.pos {α : Type} {c : Prop} [Decidable c] {g f : Nat → Option α} {r : α} (h : c) (k : Ev g r) : Ev (fun n => if c then g n else f n) r := Ev.congr (fun _ => if_pos h) k
theorem Ev.neg {α : Type} {c : Prop} [Decidable c] {g f : Nat → Option α} {r : α} (h : ¬ c) (k : Ev f r) : Ev (fun n => if c then g n else f n) r := Ev.congr (fun _ => if_neg h) k
theorem Ev.round {α : Type} {g : Nat → Option α} {r : α} (k : Ev (fun n => g (n + 1)) r) : Ev g r := Ev.step (fun _ => rfl) k
theorem Ev.is {α : Type} {x : Option α} {r : α} (h : x = some r) : Ev (fun _ => x) r := ⟨0, fun _ _ => h⟩
theorem Ev.bind' {α β : Type} {x : Option α} {f : Nat → α → Option β} {a : α} {r : β} (h : x = some a) (k : Ev (fun n => f n a) r) : Ev (fun n => x.bind (f n)) r := Ev.bind (g := fun _ => x) (Ev.is h) k


/-- The bytes of a piece: of a chunk, at a place in it. -/
def bs (p : S58) : List (Int × Int) := (List.range p.f2.toNat).map fun k => (p.f0, if p.f0 > 0 then p.f1 + (k : Nat) else 0)
def each (l : List S58) : List (Int × Int) := l.flatMap bs
/-- Whether q goes on where p ends. -/
def oneB (p q : S58) : Prop := p.f0 = q.f0 ∧ (p.f0 ≤ 0 ∨ q.f1 = p.f1 + p.f2)
instance (p q : S58) : Decidable (oneB p q) := by unfold oneB; infer_instance
/-- A piece is added to a body whose last piece comes first. -/
def jr : List S58 → S58 → List S58
  | [], p => if p.f2 ≤ 0 then [] else [p]
  | q :: l, p => if p.f2 ≤ 0 then q :: l else if oneB q p then ⟨q.f0, q.f1, q.f2 + p.f2⟩ :: l else p :: q :: l
def by1 (b : Int × Int) : S58 := ⟨b.1, b.2, 1⟩
def nfr (l : List S58) (x : List (Int × Int)) : List S58 := x.foldl (fun l b => jr l (by1 b)) l
def wf (p : S58) : Prop := p.f0 ≤ 0 → p.f1 = 0

theorem nfr_append (acc : List S58) (x y : List (Int × Int)) : nfr acc (x ++ y) = nfr (nfr acc x) y := List.foldl_append

theorem bs_zero {p : S58} (h : p.f2 ≤ 0) : bs p = [] := by
  unfold bs
  rw [show p.f2.toNat = 0 by omega]; rfl
theorem bs_one (i f : Int) (hw : i ≤ 0 → f = 0) : bs ⟨i, f, 1⟩ = [(i, f)] := by
  simp only [bs, show (1 : Int).toNat = 1 from rfl, List.range_one, List.map_cons, List.map_nil]
  by_cases h : i > 0
  · rw [if_pos h]; simp
  · rw [if_neg h, hw (by omega)]
theorem bs_add (i f n m : Int) (hn : 0 ≤ n) (hm : 0 ≤ m) : bs ⟨i, f, n + m⟩ = bs ⟨i, f, n⟩ ++ bs ⟨i, if i > 0 then f + n else 0, m⟩ := by
  simp only [bs]
  rw [show (n + m).toNat = n.toNat + m.toNat by omega, List.range_add, List.map_append, List.map_map]
  congr 1
  refine List.map_congr_left fun k _ => ?_
  simp only [Function.comp]
  by_cases h : i > 0
  · rw [if_pos h, if_pos h, if_pos h]
    congr 1
    omega
  · rw [if_neg h, if_neg h]
theorem bs_succ (i f : Int) (n : Nat) : bs ⟨i, f, ((n + 1 : Nat) : Int)⟩ = bs ⟨i, f, (n : Int)⟩ ++ [(i, if i > 0 then f + n else 0)] := by
  rw [show ((n + 1 : Nat) : Int) = (n : Int) + 1 by omega, bs_add i f n 1 (by omega) (by omega), bs_one]
  intro h; rw [if_neg (by omega)]
theorem bs_length (p : S58) : (bs p).length = p.f2.toNat := by simp [bs]

theorem jr_nil (acc : List S58) {p : S58} (h : p.f2 ≤ 0) : jr acc p = acc := by
  cases acc <;> simp [jr, h]

theorem jr_first {p : S58} (h : ¬ p.f2 ≤ 0) : jr [] p = [p] := by simp only [jr]; rw [if_neg h]
theorem jr_join {q p : S58} {l : List S58} (h : ¬ p.f2 ≤ 0) (h1 : oneB q p) : jr (q :: l) p = ⟨q.f0, q.f1, q.f2 + p.f2⟩ :: l := by simp only [jr]; rw [if_neg h, if_pos h1]
theorem jr_apart {q p : S58} {l : List S58} (h : ¬ p.f2 ≤ 0) (h1 : ¬ oneB q p) : jr (q :: l) p = p :: q :: l := by simp only [jr]; rw [if_neg h, if_neg h1]

/-- Adding a piece is adding its bytes. -/
theorem jr_bytes (i f : Int) (hw : i ≤ 0 → f = 0) (acc : List S58) : ∀ n : Nat, jr acc ⟨i, f, (n : Int)⟩ = nfr acc (bs ⟨i, f, (n : Int)⟩) := by
  intro n
  induction n with
  | zero => rw [jr_nil _ (by simp), bs_zero (by simp)]; rfl
  | succ n ih =>
    rw [bs_succ i f n, nfr_append, ← ih]
    show _ = jr (jr acc ⟨i, f, (n : Int)⟩) ⟨i, if i > 0 then f + n else 0, 1⟩
    have hn1 : ¬ (⟨i, f, ((n + 1 : Nat) : Int)⟩ : S58).f2 ≤ 0 := by dsimp only; omega
    have h11 : ¬ (⟨i, if i > 0 then f + n else 0, 1⟩ : S58).f2 ≤ 0 := by dsimp only; omega
    rcases Nat.eq_zero_or_pos n with h0 | h0
    · subst h0
      rw [jr_nil _ (show (⟨i, f, ((0 : Nat) : Int)⟩ : S58).f2 ≤ 0 by simp)]
      congr 1
      simp only [S58.mk.injEq, true_and]
      refine ⟨?_, by simp⟩
      by_cases h : i > 0
      · rw [if_pos h]; simp
      · rw [if_neg h, hw (by omega)]
    · have hn0 : ¬ (⟨i, f, (n : Int)⟩ : S58).f2 ≤ 0 := by dsimp only; omega
      have ho : oneB ⟨i, f, (n : Int)⟩ ⟨i, if i > 0 then f + n else 0, 1⟩ := by
        refine ⟨rfl, ?_⟩
        by_cases h : i > 0
        · exact .inr (by dsimp only; rw [if_pos h])
        · exact .inl (by dsimp only; omega)
      cases acc with
      | nil =>
        rw [jr_first hn1, jr_first hn0, jr_join h11 ho]
        congr 1
      | cons q l =>
        by_cases h : oneB q ⟨i, f, ((n + 1 : Nat) : Int)⟩
        · rw [jr_join hn1 h, jr_join hn0 (show oneB q ⟨i, f, (n : Int)⟩ from h), jr_join h11]
          · simp only [List.cons.injEq, and_true, S58.mk.injEq, true_and]; omega
          · obtain ⟨h1, h2⟩ := h
            refine ⟨h1, ?_⟩
            dsimp only at h1 h2 ⊢
            by_cases h3 : i > 0
            · rw [if_pos h3]; omega
            · omega
        · rw [jr_apart hn1 h, jr_apart hn0 (show ¬ oneB q ⟨i, f, (n : Int)⟩ from h), jr_join h11 ho]
          congr 1

theorem jr_each (acc : List S58) (p : S58) (hw : wf p) : jr acc p = nfr acc (bs p) := by
  obtain ⟨i, f, n⟩ := p
  by_cases h : n ≤ 0
  · rw [jr_nil _ h, bs_zero h]; rfl
  · obtain ⟨m, rfl⟩ : ∃ m : Nat, n = m := ⟨n.toNat, by omega⟩
    exact jr_bytes i f hw acc m

/-- Adding pieces is adding their bytes. -/
theorem fold_jr (acc : List S58) (l : List S58) (hw : ∀ p ∈ l, wf p) : l.foldl jr acc = nfr acc (each l) := by
  induction l generalizing acc with
  | nil => rfl
  | cons p l ih =>
    rw [List.foldl_cons, jr_each _ _ (hw p List.mem_cons_self), ih _ (fun q hq => hw q (List.mem_cons_of_mem _ hq))]
    simp only [each, List.flatMap_cons, nfr, List.foldl_append]

/-- What holds of bodies whose last piece comes first. -/
structure Canon (l : List S58) : Prop where
  wf : ∀ p ∈ l, wf p
  pos : ∀ p ∈ l, 1 ≤ p.f2
  apart : l.Pairwise (fun _ _ => True) ∧ ∀ i (q p : S58), l[i]? = some p → l[i + 1]? = some q → ¬ oneB q p

theorem canon_cons {q p : S58} {l : List S58} (h : Canon (q :: l)) (hw : Pure.wf p) (hp : 1 ≤ p.f2) (h1 : ¬ oneB q p) : Canon (p :: q :: l) := by
  refine ⟨?_, ?_, by simp [List.pairwise_iff_forall_sublist], ?_⟩
  · intro r hr; rcases List.mem_cons.1 hr with rfl | hr
    · exact hw
    · exact h.wf r hr
  · intro r hr; rcases List.mem_cons.1 hr with rfl | hr
    · exact hp
    · exact h.pos r hr
  · intro i a b ha hb
    cases i with
    | zero => simp at ha hb; subst ha; subst hb; exact h1
    | succ i => exact h.apart.2 i a b (by simpa using ha) (by simpa using hb)

theorem canon_one {p : S58} (hw : Pure.wf p) (hp : 1 ≤ p.f2) : Canon [p] := by
  refine ⟨?_, ?_, by simp, ?_⟩
  · intro r hr; rw [List.mem_singleton] at hr; subst hr; exact hw
  · intro r hr; rw [List.mem_singleton] at hr; subst hr; exact hp
  · intro i a b ha hb; simp at hb

theorem canon_tail {p : S58} {l : List S58} (h : Canon (p :: l)) : Canon l :=
  ⟨fun r hr => h.wf r (List.mem_cons_of_mem _ hr), fun r hr => h.pos r (List.mem_cons_of_mem _ hr), by simp [List.pairwise_iff_forall_sublist], fun i a b ha hb => h.apart.2 (i + 1) a b (by simpa using ha) (by simpa using hb)⟩

theorem canon_jr {l : List S58} (h : Canon l) {p : S58} (hw : Pure.wf p) : Canon (jr l p) := by
  by_cases hp : p.f2 ≤ 0
  · rw [jr_nil _ hp]; exact h
  cases l with
  | nil => rw [jr_first hp]; exact canon_one hw (by omega)
  | cons q l =>
    by_cases h1 : oneB q p
    · rw [jr_join hp h1]
      have hq : Pure.wf ⟨q.f0, q.f1, q.f2 + p.f2⟩ := h.wf q List.mem_cons_self
      have hq2 := h.pos q List.mem_cons_self
      cases l with
      | nil => exact canon_one hq (by dsimp only; omega)
      | cons r l => exact canon_cons (canon_tail h) hq (by dsimp only; omega) (fun h2 => h.apart.2 0 r q rfl rfl h2)
    · rw [jr_apart hp h1]; exact canon_cons h hw (by omega) h1

/-- Bytes that are right for holes. -/
def wfB (b : Int × Int) : Prop := b.1 ≤ 0 → b.2 = 0

theorem canon_nfr {l : List S58} (h : Canon l) (x : List (Int × Int)) (hx : ∀ b ∈ x, wfB b) : Canon (nfr l x) := by
  induction x generalizing l with
  | nil => exact h
  | cons b x ih => exact ih (canon_jr h (p := by1 b) (hx b List.mem_cons_self)) (fun c hc => hx c (List.mem_cons_of_mem _ hc))

theorem each_append (a b : List S58) : each (a ++ b) = each a ++ each b := by simp [each]
theorem each_cons (p : S58) (b : List S58) : each (p :: b) = bs p ++ each b := by simp [each]

theorem each_jr {l : List S58} (h : Canon l) {p : S58} (hw : Pure.wf p) : each (jr l p).reverse = each l.reverse ++ bs p := by
  by_cases hp : p.f2 ≤ 0
  · rw [jr_nil _ hp, bs_zero hp, List.append_nil]
  cases l with
  | nil => rw [jr_first hp]; simp [each]
  | cons q l =>
    by_cases h1 : oneB q p
    · rw [jr_join hp h1, List.reverse_cons, List.reverse_cons, each_append, each_append, List.append_assoc]
      congr 1
      have hq2 := h.pos q List.mem_cons_self
      have hq := h.wf q List.mem_cons_self
      simp only [each, List.flatMap_cons, List.flatMap_nil, List.append_nil]
      rw [bs_add _ _ _ _ (by omega) (by omega)]
      congr 1
      obtain ⟨a, b, c⟩ := p
      obtain ⟨h2, h3⟩ := h1
      dsimp only at h2 h3 hw ⊢
      congr 1
      rw [h2]
      by_cases h4 : a > 0
      · rw [if_pos h4]
        congr 1
        omega
      · rw [if_neg h4]
        have : b = 0 := hw (by dsimp only; omega)
        rw [this]
    · rw [jr_apart hp h1, List.reverse_cons, each_append]
      simp [each]

theorem each_nfr {l : List S58} (h : Canon l) (x : List (Int × Int)) (hx : ∀ b ∈ x, wfB b) : each (nfr l x).reverse = each l.reverse ++ x := by
  induction x generalizing l with
  | nil => simp [nfr]
  | cons b x ih =>
    have hb : Pure.wf (by1 b) := hx b List.mem_cons_self
    have := ih (canon_jr h hb) (fun c hc => hx c (List.mem_cons_of_mem _ hc))
    rw [each_jr h hb, show bs (by1 b) = [b] from bs_one b.1 b.2 hb, List.append_assoc] at this
    exact this

/-- A body is what its bytes tell. -/
theorem canon_eq {l : List S58} (h : Canon l) : nfr [] (each l.reverse) = l := by
  induction l with
  | nil => rfl
  | cons p l ih =>
    rw [List.reverse_cons, each_append, nfr_append, ih (canon_tail h)]
    show nfr l (each [p]) = p :: l
    rw [show each [p] = bs p by simp [each], ← jr_each l p (h.wf p List.mem_cons_self)]
    have hp := h.pos p List.mem_cons_self
    cases l with
    | nil => exact jr_first (by omega)
    | cons q l => exact jr_apart (by omega) (fun h2 => h.apart.2 0 q p rfl rfl h2)

/-- What holds of the whole numbers of bytes. -/
theorem bs_take (p : S58) (k : Int) (hn : 0 ≤ p.f2) : (bs p).take k.toNat = bs ⟨p.f0, p.f1, min p.f2 k⟩ := by
  obtain ⟨i, f, n⟩ := p
  dsimp only at hn ⊢
  by_cases h : k ≤ n
  · by_cases h0 : k ≤ 0
    · rw [show k.toNat = 0 by omega, List.take_zero, bs_zero (by dsimp only; omega)]
    · have := bs_add i f k (n - k) (by omega) (by omega)
      rw [show k + (n - k) = n by omega] at this
      rw [this, show min n k = k by omega, List.take_append_of_le_length (by rw [bs_length]; exact Nat.le_refl _), List.take_of_length_le (by rw [bs_length]; exact Nat.le_refl _)]
  · rw [show min n k = n by omega, List.take_of_length_le (by rw [bs_length]; dsimp only; omega)]

theorem bs_drop (p : S58) (k : Int) (hn : 0 ≤ p.f2) : (bs p).drop k.toNat = bs ⟨p.f0, if p.f0 > 0 then p.f1 + max 0 k else p.f1, p.f2 - max 0 k⟩ := by
  obtain ⟨i, f, n⟩ := p
  dsimp only at hn ⊢
  by_cases h0 : k ≤ 0
  · rw [show k.toNat = 0 by omega, List.drop_zero, show max 0 k = 0 by omega]
    by_cases h : i > 0
    · rw [if_pos h]; congr 1; simp
    · rw [if_neg h]; congr 1; simp
  · rw [show max 0 k = k by omega]
    by_cases h : k ≤ n
    · have := bs_add i f k (n - k) (by omega) (by omega)
      rw [show k + (n - k) = n by omega] at this
      have hl : (bs ⟨i, f, k⟩).length = k.toNat := bs_length _
      rw [this, List.drop_append_of_le_length (by rw [hl]; exact Nat.le_refl _), List.drop_of_length_le (by rw [hl]; exact Nat.le_refl _), List.nil_append]
      by_cases h : i > 0
      · rw [if_pos h, if_pos h]
      · rw [if_neg h, if_neg h]; simp only [bs, if_neg h]
    · rw [bs_zero (p := ⟨i, if i > 0 then f + k else f, n - k⟩) (by dsimp only; omega), List.drop_of_length_le (by rw [bs_length]; dsimp only; omega)]

/-- The pieces of the bytes from lo on, before hi, where nothing wraps. -/
def bw : List S58 → Int → Int → List S58
  | [], _, _ => []
  | p :: b, lo, hi =>
    if min p.f2 hi - max 0 lo ≤ 0 then bw b (lo - p.f2) (hi - p.f2)
    else ⟨p.f0, if p.f0 > 0 then p.f1 + max 0 lo else p.f1, min p.f2 hi - max 0 lo⟩ :: bw b (lo - p.f2) (hi - p.f2)

theorem each_bw : ∀ (b : List S58) (lo hi : Int), (∀ p ∈ b, 0 ≤ p.f2) → each (bw b lo hi) = ((each b).take hi.toNat).drop lo.toNat := by
  intro b
  induction b with
  | nil => intro lo hi _; simp [bw, each]
  | cons p b ih =>
    intro lo hi h
    have hp := h p List.mem_cons_self
    have hi1 := ih (lo - p.f2) (hi - p.f2) (fun q hq => h q (List.mem_cons_of_mem _ hq))
    have hb : each (bw (p :: b) lo hi) = bs ⟨p.f0, if p.f0 > 0 then p.f1 + max 0 lo else p.f1, min p.f2 hi - max 0 lo⟩ ++ each (bw b (lo - p.f2) (hi - p.f2)) := by
      simp only [bw]
      split
      · rw [bs_zero (by dsimp only; omega)]; rfl
      · rw [each_cons]
    rw [hb, hi1, each_cons, List.take_append, List.drop_append, bs_take p hi hp]
    congr 1
    · by_cases hh : 0 ≤ min p.f2 hi
      · rw [bs_drop _ lo hh]
      · rw [bs_zero (p := ⟨p.f0, p.f1, min p.f2 hi⟩) (by dsimp only; omega), List.drop_nil, bs_zero (by dsimp only; omega)]
    · rw [bs_length, bs_length]
      dsimp only
      by_cases hh : p.f2 ≤ hi
      · rw [show min p.f2 hi = p.f2 by omega, show (hi - p.f2).toNat = hi.toNat - p.f2.toNat by omega, show (lo - p.f2).toNat = lo.toNat - p.f2.toNat by omega]
      · rw [show (hi - p.f2).toNat = 0 by omega, show hi.toNat - p.f2.toNat = 0 by omega]; simp

theorem wf_bw : ∀ (b : List S58) (lo hi : Int), (∀ p ∈ b, wf p) → ∀ p ∈ bw b lo hi, wf p := by
  intro b
  induction b with
  | nil => intro lo hi _ p hp; simp [bw] at hp
  | cons q b ih =>
    intro lo hi h p hp
    simp only [bw] at hp
    have ih' := ih (lo - q.f2) (hi - q.f2) (fun q hq => h q (List.mem_cons_of_mem _ hq))
    split at hp
    · exact ih' p hp
    · rcases List.mem_cons.1 hp with rfl | hp
      · intro h0
        have := h q List.mem_cons_self h0
        dsimp only at h0 ⊢
        rw [if_neg (by omega)]; exact this
      · exact ih' p hp

/-- The body of some bytes. -/
def nf (x : List (Int × Int)) : List S58 := (nfr [] x).reverse
theorem canon_nil : Canon [] := ⟨by simp, by simp, by simp, by simp⟩
theorem canon_nf (x : List (Int × Int)) (hx : ∀ b ∈ x, wfB b) : Canon (nf x).reverse := by unfold nf; rw [List.reverse_reverse]; exact canon_nfr canon_nil x hx
theorem each_nf (x : List (Int × Int)) (hx : ∀ b ∈ x, wfB b) : each (nf x) = x := by unfold nf; rw [each_nfr canon_nil x hx]; simp [each]
theorem nf_each {l : List S58} (h : Canon l.reverse) : nf (each l) = l := by have := canon_eq h; rw [List.reverse_reverse] at this; unfold nf; rw [this, List.reverse_reverse]
theorem fold_nf (l : List S58) (hw : ∀ p ∈ l, wf p) : l.foldl jr [] = (nf (each l)).reverse := by rw [fold_jr [] l hw]; unfold nf; rw [List.reverse_reverse]
theorem wfB_bs (p : S58) : ∀ b ∈ bs p, wfB b := by
  intro b hb h
  simp only [bs, List.mem_map] at hb
  obtain ⟨k, _, rfl⟩ := hb
  dsimp only at h ⊢
  rw [if_neg (by omega)]
theorem wfB_each (l : List S58) : ∀ b ∈ each l, wfB b := by
  intro b hb
  simp only [each, List.mem_flatMap] at hb
  obtain ⟨p, _, hb⟩ := hb
  exact wfB_bs p b hb
theorem wf_nf (x : List (Int × Int)) (hx : ∀ b ∈ x, wfB b) : ∀ p ∈ nf x, wf p := fun p hp => (canon_nf x hx).wf p (by simpa using hp)
theorem pos_nf (x : List (Int × Int)) (hx : ∀ b ∈ x, wfB b) : ∀ p ∈ nf x, 1 ≤ p.f2 := fun p hp => (canon_nf x hx).pos p (by simpa using hp)

/-- The sum of the sizes. -/
def sz : List S58 → Int
  | [] => 0
  | p :: l => p.f2 + sz l
theorem sz_each : ∀ (l : List S58), (∀ p ∈ l, 0 ≤ p.f2) → sz l = (each l).length
  | [], _ => rfl
  | p :: l, h => by
    have hp := h p List.mem_cons_self
    rw [sz, sz_each l (fun q hq => h q (List.mem_cons_of_mem _ hq)), each_cons, List.length_append, bs_length]
    omega
theorem mem_each {l : List S58} {p : S58} (hp : p ∈ l) : ∀ b ∈ bs p, b ∈ each l := fun _ hb => List.mem_flatMap.2 ⟨p, hp, hb⟩
theorem len_each {l : List S58} {p : S58} (hp : p ∈ l) (h0 : 0 ≤ p.f2) : p.f2 ≤ (each l).length := by
  have : (bs p).length ≤ (each l).length := by
    obtain ⟨a, b, rfl⟩ := List.append_of_mem hp
    rw [each_append, each_cons]
    simp only [List.length_append]
    omega
  rw [bs_length] at this
  omega
theorem first_mem {p : S58} (h : 1 ≤ p.f2) : (p.f0, if p.f0 > 0 then p.f1 else 0) ∈ bs p := by
  simp only [bs, List.mem_map, List.mem_range]
  refine ⟨0, by omega, ?_⟩
  simp
theorem last_mem {p : S58} (h : 1 ≤ p.f2) : (p.f0, if p.f0 > 0 then p.f1 + p.f2 - 1 else 0) ∈ bs p := by
  simp only [bs, List.mem_map, List.mem_range]
  refine ⟨(p.f2 - 1).toNat, by omega, ?_⟩
  rw [show (((p.f2 - 1).toNat : Nat) : Int) = p.f2 - 1 by omega]
  congr 2
  omega

/-! ### the package's functions -/
def sumP : List S58 → Int
  | [] => 0
  | p :: l => max 0 p.f2 + sumP l
theorem sumP_nonneg : ∀ l : List S58, 0 ≤ sumP l
  | [] => by simp [sumP]
  | p :: l => by have := sumP_nonneg l; simp only [sumP]; omega
/-- Pieces, the last one first, that are far from the ends of int. -/
def Good (l : List S58) : Prop := ∀ q ∈ l, 0 ≤ q.f1 ∧ q.f1 ≤ 4194304 ∧ 1 ≤ q.f2
theorem good_len : ∀ {l : List S58}, Good l → (l.length : Int) ≤ sz l
  | [], _ => by simp [sz]
  | q :: l, h => by
    have := good_len (l := l) (fun r hr => h r (List.mem_cons_of_mem _ hr))
    have := h q List.mem_cons_self
    simp only [sz, List.length_cons]; omega
theorem good_jr {l : List S58} (h : Good l) {p : S58} (h0 : 0 ≤ p.f1) (h1 : p.f1 ≤ 4194304) : Good (jr l p) ∧ sz (jr l p) = sz l + max 0 p.f2 := by
  by_cases hp : p.f2 ≤ 0
  · rw [jr_nil _ hp]; exact ⟨h, by omega⟩
  cases l with
  | nil =>
    rw [jr_first hp]
    refine ⟨fun q hq => ?_, by simp only [sz]; omega⟩
    rw [List.mem_singleton] at hq; subst hq; omega
  | cons q l =>
    have hq := h q List.mem_cons_self
    have hl : Good l := fun r hr => h r (List.mem_cons_of_mem _ hr)
    by_cases h2 : oneB q p
    · rw [jr_join hp h2]
      refine ⟨fun r hr => ?_, by simp only [sz]; omega⟩
      rcases List.mem_cons.1 hr with rfl | hr
      · dsimp only; omega
      · exact hl r hr
    · rw [jr_apart hp h2]
      refine ⟨fun r hr => ?_, by simp only [sz]; omega⟩
      rcases List.mem_cons.1 hr with rfl | hr
      · omega
      · exact h r hr

theorem rd_last (q : S58) (l : List S58) : rd_T58 (q :: l).reverse (((q :: l).reverse.length : Int) - 1) = q := by
  unfold rd_T58
  rw [List.reverse_cons, List.length_append, List.length_reverse, List.length_singleton, show (((l.length + 1 : Nat) : Int) - 1).toNat = l.length by omega, List.getD_eq_getElem?_getD, List.getElem?_append_right (by simp)]
  simp
theorem set_last (q v : S58) (l : List S58) : (q :: l).reverse.set ((((q :: l).reverse.length : Int) - 1)).toNat v = (v :: l).reverse := by
  rw [List.reverse_cons, List.length_append, List.length_reverse, List.length_singleton, show (((l.length + 1 : Nat) : Int) - 1).toNat = l.length by omega, List.reverse_cons, List.set_append_right _ _ (by simp)]
  simp

theorem one_eq (p q : S58) (h : -4611686018427387904 ≤ p.f1 + p.f2 ∧ p.f1 + p.f2 ≤ 4611686018427387904) : extent_one.f p.f0 p.f1 p.f2 q.f0 q.f1 q.f2 = some (decide (oneB p q)) := by
  unfold extent_one.f oneB
  rw [wrap_id (by omega) (by omega)]
  by_cases h1 : p.f0 = q.f0
  · rw [if_pos h1]
    by_cases h2 : p.f0 ≤ 0
    · rw [if_pos h2]; simp [h1, h1 ▸ h2]
    · rw [if_neg h2]
      simp only [h1, true_and, Option.some.injEq]
      rw [Bool.eq_iff_iff]
      simp only [beq_iff_eq, decide_eq_true_eq]
      omega
  · rw [if_neg h1]; simp [h1]
theorem one_ref : r08_One.f = extent_one.f := rfl

theorem join_eq {l : List S58} (h : Good l) (hs : sz l ≤ 1099511627776) (p : S58) (h2 : p.f2 ≤ 1099511627776) : extent_join.f l.reverse p.f0 p.f1 p.f2 = some (jr l p).reverse := by
  have hl := good_len h
  unfold extent_join.f
  by_cases hp : p.f2 ≤ 0
  · rw [if_pos hp, jr_nil _ hp]
  rw [if_neg hp]
  cases l with
  | nil =>
    rw [jr_first hp, if_neg (by simp [wrap64])]
    simp
  | cons q l =>
    have hq := h q List.mem_cons_self
    have hl2 : q.f2 ≤ sz (q :: l) := by
      have : Good l := fun r hr => h r (List.mem_cons_of_mem _ hr)
      have := good_len this
      simp only [sz]; omega
    have hlen : ((q :: l).reverse.length : Int) = (l.length : Int) + 1 := by simp
    simp only [List.length_cons] at hl
    rw [wrap_id (n := ((q :: l).reverse.length : Int) - 1) (by omega) (by omega), rd_last, set_last, one_eq q p (by omega), if_pos (by omega), if_pos (by omega), if_pos (by omega)]
    simp only [Option.bind_some, decide_eq_true_eq]
    by_cases h1 : oneB q p
    · rw [if_pos h1, jr_join hp h1, wrap_id (by omega) (by omega)]
    · rw [if_neg h1, jr_apart hp h1, if_pos (by rw [List.length_reverse, List.length_cons]; omega)]
      simp

theorem joinAll_eq : ∀ (xs : List S58) (l : List S58), Good l → (∀ p ∈ xs, 0 ≤ p.f1 ∧ p.f1 ≤ 4194304) → sz l + sumP xs ≤ 1099511627776 → joinAll l.reverse xs = some (xs.foldl jr l).reverse
  | [], l, _, _, _ => rfl
  | p :: xs, l, h, hx, hs => by
    simp only [sumP] at hs
    have h0 := sumP_nonneg xs
    have hp := hx p List.mem_cons_self
    obtain ⟨h1, h2⟩ := good_jr h (p := p) hp.1 hp.2
    have := good_len h
    have e : extent_join.f l.reverse p.f0 p.f1 p.f2 = some (jr l p).reverse := join_eq h (by omega) p (by omega)
    unfold joinAll
    rw [List.foldlM_cons, e, List.foldl_cons]
    exact joinAll_eq xs (jr l p) h1 (fun q hq => hx q (List.mem_cons_of_mem _ hq)) (by rw [h2]; omega)

theorem joinAll_nf (xs : List S58) (hw : ∀ p ∈ xs, wf p) (hx : ∀ p ∈ xs, 0 ≤ p.f1 ∧ p.f1 ≤ 4194304) (hs : sumP xs ≤ 1099511627776) : joinAll [] xs = some (nf (each xs)) := by
  have := joinAll_eq xs [] (fun _ h => by cases h) hx (by simp only [sz]; omega)
  rw [fold_nf xs hw, List.reverse_reverse] at this
  exact this

theorem drop_rd (l : List S58) (i : Int) (h0 : 0 ≤ i) (h1 : i < (l.length : Int)) : l.drop i.toNat = rd_T58 l i :: l.drop (i + 1).toNat := drop_stepI l z58 i h0 h1

theorem norm_eq (x0 : List S58) (hm : x0.length ≤ 4611686018427387904) : ∀ (d : Nat) (i : Int) (l : List S58), 0 ≤ i → i ≤ x0.length → (x0.length : Int) - i = d → Good l → (∀ p ∈ x0.drop i.toNat, 0 ≤ p.f1 ∧ p.f1 ≤ 4194304) → sz l + sumP (x0.drop i.toNat) ≤ 1099511627776 →
    Ev (fun k => r08_Norm.l0 k x0 l.reverse i) ((x0.drop i.toNat).foldl jr l).reverse := by
  intro d
  induction d with
  | zero =>
    intro i l h0 h1 hd hg hx hs
    refine Ev.round ?_
    simp only [r08_Norm.l0]
    refine Ev.neg (by omega) ?_
    rw [List.drop_of_length_le (by omega)]
    exact Ev.now _
  | succ d ih =>
    intro i l h0 h1 hd hg hx hs
    have hr := drop_rd x0 i h0 (by omega)
    rw [hr] at hx hs ⊢
    have hp := hx _ List.mem_cons_self
    obtain ⟨hg1, hg2⟩ := good_jr hg (p := rd_T58 x0 i) hp.1 hp.2
    have h3 := sumP_nonneg (x0.drop (i + 1).toNat)
    have hl := good_len hg
    simp only [sumP] at hs
    have ih' := ih (i + 1) (jr l (rd_T58 x0 i)) (by omega) (by omega) (by omega) hg1 (fun q hq => hx q (List.mem_cons_of_mem _ hq)) (by rw [hg2]; omega)
    rw [List.foldl_cons]
    have hw : wrap64 (i + 1) = i + 1 := wrap_id (by omega) (by omega)
    refine Ev.round ?_
    simp only [r08_Norm.l0, one_ref, hw]
    refine Ev.pos (by omega) (Ev.pos h0 ?_)
    clear ih hx hr hg1 hd
    generalize rd_T58 x0 i = p at *
    by_cases hp2 : p.f2 ≤ 0
    · rw [jr_nil _ hp2] at ih' ⊢
      exact Ev.pos hp2 ih'
    refine Ev.neg hp2 ?_
    cases l with
    | nil =>
      rw [jr_first hp2] at ih' ⊢
      refine Ev.neg (by simp [wrap64]) (Ev.pos (by simp) ?_)
      exact ih'
    | cons q l =>
      have hq := hg q List.mem_cons_self
      have hl2 : q.f2 ≤ sz (q :: l) := by
        have : Good l := fun r hr => hg r (List.mem_cons_of_mem _ hr)
        have := good_len this
        simp only [sz]; omega
      have hlen : ((q :: l).reverse.length : Int) = (l.length : Int) + 1 := by simp
      simp only [List.length_cons] at hl
      rw [wrap_id (n := ((q :: l).reverse.length : Int) - 1) (by omega) (by omega), rd_last]
      simp only [set_last]
      refine Ev.pos (by omega) (Ev.pos (by omega) (Ev.pos (by omega) ?_))
      refine Ev.bind' (one_eq q p (by omega)) ?_
      simp only [decide_eq_true_eq]
      by_cases h1 : oneB q p
      · rw [jr_join hp2 h1] at ih' ⊢
        rw [wrap_id (n := q.f2 + p.f2) (by omega) (by omega)]
        exact Ev.pos h1 ih'
      · rw [jr_apart hp2 h1] at ih' ⊢
        refine Ev.neg h1 (Ev.pos (by rw [List.length_reverse, List.length_cons]; omega) ?_)
        rw [List.reverse_cons (a := p)] at ih'
        exact ih'

theorem norm_nf (x : List S58) (hm : x.length ≤ 4611686018427387904) (hw : ∀ p ∈ x, wf p) (hx : ∀ p ∈ x, 0 ≤ p.f1 ∧ p.f1 ≤ 4194304) (hs : sumP x ≤ 1099511627776) : Ev (fun k => r08_Norm.f k x) (nf (each x)) := by
  have := norm_eq x hm x.length 0 [] (by omega) (by omega) (by omega) (fun _ h => by cases h) (by simpa using hx) (by simp only [sz]; simpa using hs)
  rw [show (0 : Int).toNat = 0 from rfl, List.drop_zero, fold_nf x hw, List.reverse_reverse] at this
  exact this

def toS (b : Int × Int) : S32 := ⟨b.1, b.2⟩
def ofS (s : S32) : Int × Int := (s.f0, s.f1)
def eS (l : List S58) : List S32 := (each l).map toS

theorem each_in (x0 : List S58) (p : S58) (x4 : Int) (h4 : 0 ≤ x4) (h5 : x4 < (x0.length : Int)) (hp : rd_T58 x0 x4 = p) (h1 : 0 ≤ p.f1 ∧ p.f1 ≤ 4194304) (h2 : p.f2 ≤ 4194304) (r : List S32) :
    ∀ (d : Nat) (j : Int) (x3 : List S32), 0 ≤ j → j ≤ p.f2 → p.f2 - j = d → (x3.length : Int) + d ≤ 1099511627776 →
    Ev (fun k => r08_Each.l0 k x0 (x3 ++ ((bs p).drop j.toNat).map toS) (wrap64 (x4 + 1))) r → Ev (fun k => r08_Each.l1 k x0 x3 x4 j) r := by
  intro d
  induction d with
  | zero =>
    intro j x3 h0 hj hd hl hr
    refine Ev.round ?_
    simp only [r08_Each.l1]
    rw [hp]
    refine Ev.pos h4 (Ev.pos h5 (Ev.neg (by omega) ?_))
    rw [List.drop_of_length_le (by rw [bs_length]; omega), List.map_nil, List.append_nil] at hr
    exact hr
  | succ d ih =>
    intro j x3 h0 hj hd hl hr
    have hb : (bs p).drop j.toNat = (p.f0, if p.f0 > 0 then p.f1 + j else 0) :: (bs p).drop (j + 1).toNat := by
      rw [List.drop_eq_getElem_cons (by rw [bs_length]; omega), show (j + 1).toNat = j.toNat + 1 by omega]
      congr 1
      simp only [bs, List.getElem_map, List.getElem_range]
      rw [show ((j.toNat : Nat) : Int) = j by omega]
    rw [hb, List.map_cons, List.append_cons] at hr
    have hw : wrap64 (j + 1) = j + 1 := wrap_id (by omega) (by omega)
    refine Ev.round ?_
    simp only [r08_Each.l1]
    rw [hp, hw, wrap_id (n := p.f1 + j) (by omega) (by omega)]
    refine Ev.pos h4 (Ev.pos h5 (Ev.pos (by omega) ?_))
    by_cases h : p.f0 > 0
    · rw [if_pos h] at hr
      refine Ev.pos h (Ev.pos (by omega) ?_)
      exact ih (j + 1) _ (by omega) (by omega) (by omega) (by simp only [List.length_append, List.length_singleton]; omega) hr
    · rw [if_neg h] at hr
      refine Ev.neg h (Ev.pos (by omega) ?_)
      exact ih (j + 1) _ (by omega) (by omega) (by omega) (by simp only [List.length_append, List.length_singleton]; omega) hr

theorem each_out (x0 : List S58) (hm : x0.length ≤ 4611686018427387904) : ∀ (d : Nat) (i : Int) (x3 : List S32), 0 ≤ i → i ≤ x0.length → (x0.length : Int) - i = d → (∀ p ∈ x0.drop i.toNat, (0 ≤ p.f1 ∧ p.f1 ≤ 4194304) ∧ 0 ≤ p.f2 ∧ p.f2 ≤ 4194304) → (x3.length : Int) + (each (x0.drop i.toNat)).length ≤ 1099511627776 →
    Ev (fun k => r08_Each.l0 k x0 x3 i) (x3 ++ eS (x0.drop i.toNat)) := by
  intro d
  induction d with
  | zero =>
    intro i x3 h0 h1 hd hx hs
    refine Ev.round ?_
    simp only [r08_Each.l0]
    refine Ev.neg (by omega) ?_
    rw [List.drop_of_length_le (by omega)]
    simp only [eS, each, List.flatMap_nil, List.map_nil, List.append_nil]
    exact Ev.now _
  | succ d ih =>
    intro i x3 h0 h1 hd hx hs
    have hr := drop_rd x0 i h0 (by omega)
    rw [hr] at hx hs ⊢
    have hp := hx _ List.mem_cons_self
    rw [each_cons, List.length_append, bs_length] at hs
    refine Ev.round ?_
    simp only [r08_Each.l0]
    refine Ev.pos (by omega) ?_
    refine each_in x0 _ i h0 (by omega) rfl hp.1 hp.2.2 _ (rd_T58 x0 i).f2.toNat 0 x3 (by omega) (by omega) (by omega) (by omega) ?_
    rw [wrap_id (by omega) (by omega)]
    have := ih (i + 1) (x3 ++ (bs (rd_T58 x0 i)).map toS) (by omega) (by omega) (by omega) (fun q hq => hx q (List.mem_cons_of_mem _ hq)) (by rw [List.length_append, List.length_map, bs_length]; omega)
    simp only [eS, each_cons, List.map_append, ← List.append_assoc] at this ⊢
    exact this

theorem each_eS (x : List S58) (hx : ∀ p ∈ x, (0 ≤ p.f1 ∧ p.f1 ≤ 4194304) ∧ 0 ≤ p.f2 ∧ p.f2 ≤ 4194304) (hm : x.length ≤ 4611686018427387904) (hs : (each x).length ≤ 1099511627776) : Ev (fun k => r08_Each.f k x) (eS x) := by
  have := each_out x hm x.length 0 [] (by omega) (by omega) (by omega) (by simpa using hx) (by simp only [List.length_nil]; rw [show (0 : Int).toNat = 0 from rfl, List.drop_zero]; omega)
  rw [show (0 : Int).toNat = 0 from rfl, List.drop_zero, List.nil_append] at this
  exact this

/-- What is right for a piece. -/
structure Rt (p : S58) : Prop where
  wf : wf p
  n1 : 1 ≤ p.f2
  n2 : p.f2 ≤ 1048576
  a1 : 0 ≤ p.f1
  a2 : p.f1 + p.f2 ≤ 1048576
  i1 : -1 ≤ p.f0
  i2 : p.f0 ≤ 4095
/-- A valid body. -/
structure Body (l : List S58) : Prop where
  canon : Canon l.reverse
  right : ∀ p ∈ l, Rt p
  size : sz l ≤ 1048576
/-- The bytes of a valid body. -/
structure BX (x : List (Int × Int)) : Prop where
  wf : ∀ b ∈ x, wfB b
  i1 : ∀ b ∈ x, -1 ≤ b.1
  i2 : ∀ b ∈ x, b.1 ≤ 4095
  a1 : ∀ b ∈ x, 0 ≤ b.2
  a2 : ∀ b ∈ x, b.2 < 1048576
  len : x.length ≤ 1048576

theorem sz_nf {x : List (Int × Int)} (h : ∀ b ∈ x, wfB b) : sz (nf x) = x.length := by
  rw [sz_each _ (fun p hp => by have := pos_nf x h p hp; omega), each_nf x h]
theorem body_nf {x : List (Int × Int)} (h : BX x) : Body (nf x) := by
  refine ⟨canon_nf x h.wf, fun p hp => ?_, by rw [sz_nf h.wf]; have := h.len; omega⟩
  have hpos := pos_nf x h.wf p hp
  have hl := len_each hp (by omega)
  rw [each_nf x h.wf] at hl
  have hlen := h.len
  have hf := mem_each hp _ (first_mem hpos)
  have hg := mem_each hp _ (last_mem hpos)
  rw [each_nf x h.wf] at hf hg
  have hw := wf_nf x h.wf p hp
  have h1 := h.i1 _ hf
  have h2 := h.i2 _ hf
  have h3 := h.a1 _ hf
  have h4 := h.a2 _ hg
  dsimp only at h1 h2 h3 h4
  refine ⟨hw, hpos, by omega, ?_, ?_, h1, h2⟩
  · by_cases hi : p.f0 > 0
    · rw [if_pos hi] at h3; exact h3
    · have := hw (by omega); omega
  · by_cases hi : p.f0 > 0
    · rw [if_pos hi] at h4; omega
    · have := hw (by omega); omega
theorem bx_take {x : List (Int × Int)} (h : BX x) (n : Nat) : BX (x.take n) :=
  ⟨fun b hb => h.wf b (List.mem_of_mem_take hb), fun b hb => h.i1 b (List.mem_of_mem_take hb), fun b hb => h.i2 b (List.mem_of_mem_take hb), fun b hb => h.a1 b (List.mem_of_mem_take hb), fun b hb => h.a2 b (List.mem_of_mem_take hb), by have := h.len; rw [List.length_take]; omega⟩
theorem bx_drop {x : List (Int × Int)} (h : BX x) (n : Nat) : BX (x.drop n) :=
  ⟨fun b hb => h.wf b (List.mem_of_mem_drop hb), fun b hb => h.i1 b (List.mem_of_mem_drop hb), fun b hb => h.i2 b (List.mem_of_mem_drop hb), fun b hb => h.a1 b (List.mem_of_mem_drop hb), fun b hb => h.a2 b (List.mem_of_mem_drop hb), by have := h.len; rw [List.length_drop]; omega⟩
theorem bx_append {x y : List (Int × Int)} (h : BX x) (k : BX y) (hl : x.length + y.length ≤ 1048576) : BX (x ++ y) := by
  refine ⟨?_, ?_, ?_, ?_, ?_, by rw [List.length_append]; exact hl⟩ <;> intro b hb <;> rcases List.mem_append.1 hb with hb | hb
  · exact h.wf b hb
  · exact k.wf b hb
  · exact h.i1 b hb
  · exact k.i1 b hb
  · exact h.i2 b hb
  · exact k.i2 b hb
  · exact h.a1 b hb
  · exact k.a1 b hb
  · exact h.a2 b hb
  · exact k.a2 b hb
theorem body_len {l : List S58} (h : ∀ p ∈ l, Rt p) : (l.length : Int) ≤ sz l := by
  induction l with
  | nil => simp [sz]
  | cons p l ih =>
    have := ih (fun q hq => h q (List.mem_cons_of_mem _ hq))
    have := (h p List.mem_cons_self).n1
    simp only [sz, List.length_cons]; omega
theorem body_apart {l : List S58} (h : Body l) (i : Int) (h0 : 0 < i) (h1 : i < (l.length : Int)) : ¬ oneB (rd_T58 l (i - 1)) (rd_T58 l i) := by
  have e : ∀ j : Int, 0 ≤ j → j < (l.length : Int) → l.reverse[l.length - 1 - j.toNat]? = some (rd_T58 l j) := by
    intro j hj0 hj1
    rw [List.getElem?_reverse (by omega), show l.length - 1 - (l.length - 1 - j.toNat) = j.toNat by omega]
    unfold rd_T58
    rw [List.getD_eq_getElem?_getD, List.getElem?_eq_getElem (by omega)]; rfl
  have e1 := e (i - 1) (by omega) (by omega)
  have e2 := e i (by omega) (by omega)
  rw [show l.length - 1 - (i - 1).toNat = (l.length - 1 - i.toNat) + 1 by omega] at e1
  exact h.canon.apart.2 _ _ _ e2 e1
theorem rd_mem {l : List S58} {i : Int} (h0 : 0 ≤ i) (h1 : i < (l.length : Int)) : rd_T58 l i ∈ l := by
  unfold rd_T58
  rw [List.getD_eq_getElem?_getD, List.getElem?_eq_getElem (by omega)]
  exact List.getElem_mem _
theorem sz_drop (l : List S58) (i : Int) (h0 : 0 ≤ i) (h1 : i < (l.length : Int)) : sz (l.drop i.toNat) = (rd_T58 l i).f2 + sz (l.drop (i + 1).toNat) := by rw [drop_rd l i h0 h1]; rfl
theorem sz_pos : ∀ {l : List S58}, (∀ p ∈ l, Rt p) → 0 ≤ sz l
  | [], _ => by simp [sz]
  | p :: l, h => by have := sz_pos (l := l) (fun q hq => h q (List.mem_cons_of_mem _ hq)); have := (h p List.mem_cons_self).n1; simp only [sz]; omega

theorem right_eq {p : S58} (h : Rt p) (k : Nat) (hk : 1 ≤ k) : extent_right.f k p.f0 p.f1 p.f2 = some true := by
  obtain ⟨k, rfl⟩ : ∃ m, k = m + 1 := ⟨k - 1, by omega⟩
  obtain ⟨h1, h2, h3, h4, h5, h6, h7⟩ := h
  unfold extent_right.f
  rw [if_neg (by omega), if_neg (by omega), if_neg (by omega), if_neg (by omega)]
  simp only [extent_right.j0]
  rw [if_neg (by simp; omega)]
  by_cases h : p.f0 ≤ 0
  · rw [if_pos h, h1 h]; rfl
  · rw [if_neg h, wrap_id (by omega) (by omega), decide_eq_true (by omega)]

theorem valid_any {l : List S58} (h : Body l) (hm : l.length ≤ 4611686018427387904) : ∀ (d k : Nat) (i room : Int), 0 ≤ i → i ≤ l.length → (l.length : Int) - i = d → 2 * d + 2 ≤ k → sz (l.drop i.toNat) ≤ room → room ≤ 1048576 → extent_Valid.l0 k l room l (l.length : Int) i = some true := by
  intro d
  induction d with
  | zero =>
    intro k i room h0 h1 hd hk _ _
    obtain ⟨k, rfl⟩ : ∃ m, k = m + 1 := ⟨k - 1, by omega⟩
    simp only [extent_Valid.l0]
    rw [if_neg (by omega)]
  | succ d ih =>
    intro k i room h0 h1 hd hk hs hr
    obtain ⟨k, rfl⟩ : ∃ m, k = m + 2 := ⟨k - 2, by omega⟩
    have hlt : i < (l.length : Int) := by omega
    have hR := h.right _ (rd_mem h0 hlt)
    rw [sz_drop l i h0 hlt] at hs
    have hz : 0 ≤ sz (l.drop (i + 1).toNat) := sz_pos (fun p hp => h.right p (List.mem_of_mem_drop hp))
    have ih' := ih k (i + 1) (room - (rd_T58 l i).f2) (by omega) (by omega) (by omega) (by omega) (by omega) (by have := hR.n1; omega)
    have hj : extent_Valid.j1 (k + 1) l room l (l.length : Int) i false (rd_T58 l i).f0 (rd_T58 l i).f1 (rd_T58 l i).f2 = some true := by
      simp only [extent_Valid.j1]
      rw [if_neg (by decide), wrap_id (n := room - (rd_T58 l i).f2) (by have := hR.n2; omega) (by have := hR.n1; omega), if_neg (by omega), wrap_id (by omega) (by omega)]
      exact ih'
    simp only [extent_Valid.l0]
    rw [if_pos (by omega), if_pos h0, if_pos (by omega), right_eq hR (k + 1) (by omega)]
    simp only [Option.bind_some]
    rw [if_pos trivial]
    by_cases hi : i > 0
    · have hq := h.right _ (rd_mem (l := l) (i := i - 1) (by omega) (by omega))
      rw [if_pos hi, wrap_id (n := i - 1) (by omega) (by omega), if_pos (by omega), if_pos (by omega), one_eq _ _ (by have := hq.a2; have := hq.a1; have := hq.n1; omega)]
      simp only [Option.bind_some]
      rw [decide_eq_false (body_apart h i hi hlt)]
      exact hj
    · rw [if_neg hi]; exact hj

theorem valid_eq {l : List S58} (h : Body l) : extent_Valid.f (10 * l.length + 10) l = some true := by
  have := body_len h.right
  have := h.size
  unfold extent_Valid.f
  exact valid_any h (by omega) l.length _ 0 1048576 (by omega) (by omega) (by omega) (by omega) (by simpa using h.size) (by omega)
theorem valid_ev {l : List S58} (h : Body l) : Ev (fun k => extent_Valid.f k l) true := by
  have := body_len h.right
  have := h.size
  refine ⟨2 * l.length + 2, fun k hk => ?_⟩
  unfold extent_Valid.f
  exact valid_any h (by omega) l.length _ 0 1048576 (by omega) (by omega) (by omega) hk (by simpa using h.size) (by omega)

theorem rright_eq {p : S58} (h : Rt p) (k : Nat) (hk : 1 ≤ k) : r08_Right.f k p.f0 p.f1 p.f2 = some true := by
  obtain ⟨k, rfl⟩ : ∃ m, k = m + 1 := ⟨k - 1, by omega⟩
  obtain ⟨h1, h2, h3, h4, h5, h6, h7⟩ := h
  unfold r08_Right.f
  rw [if_neg (by omega), if_neg (by omega)]
  simp only [r08_Right.j0]
  rw [if_neg (by simp; omega)]
  by_cases h : p.f0 = 0
  · rw [if_pos h, h1 (by omega)]; rfl
  · rw [if_neg h]
    by_cases h' : p.f0 = -1
    · rw [if_pos h', h1 (by omega)]; rfl
    · rw [if_neg h', if_pos (by omega), if_pos (by omega), wrap_id (by omega) (by omega), decide_eq_true (by omega)]

theorem rvalid_any {l : List S58} (h : Body l) (hm : l.length ≤ 4611686018427387904) : ∀ (d k : Nat) (i s : Int), 0 ≤ i → i ≤ l.length → (l.length : Int) - i = d → 2 * d + 2 ≤ k → sz (l.drop i.toNat) + s ≤ 1048576 → 0 ≤ s → r08_Valid.l0 k l s i = some true := by
  intro d
  induction d with
  | zero =>
    intro k i s h0 h1 hd hk _ _
    obtain ⟨k, rfl⟩ : ∃ m, k = m + 1 := ⟨k - 1, by omega⟩
    simp only [r08_Valid.l0]
    rw [if_neg (by omega)]
  | succ d ih =>
    intro k i s h0 h1 hd hk hs hr
    obtain ⟨k, rfl⟩ : ∃ m, k = m + 2 := ⟨k - 2, by omega⟩
    have hlt : i < (l.length : Int) := by omega
    have hR := h.right _ (rd_mem h0 hlt)
    rw [sz_drop l i h0 hlt] at hs
    have hz : 0 ≤ sz (l.drop (i + 1).toNat) := sz_pos (fun p hp => h.right p (List.mem_of_mem_drop hp))
    have ih' := ih k (i + 1) (s + (rd_T58 l i).f2) (by omega) (by omega) (by omega) (by omega) (by omega) (by have := hR.n1; omega)
    have hj : r08_Valid.j1 (k + 1) l s i false = some true := by
      simp only [r08_Valid.j1]
      have := hR.n1
      rw [if_neg (by decide), if_pos h0, if_pos hlt, wrap_id (n := s + (rd_T58 l i).f2) (by omega) (by omega), if_neg (by omega), wrap_id (by omega) (by omega)]
      exact ih'
    simp only [r08_Valid.l0, one_ref]
    rw [if_pos (by omega), if_pos h0, rright_eq hR (k + 1) (by omega)]
    simp only [Option.bind_some]
    rw [if_pos trivial]
    by_cases hi : i > 0
    · have hq := h.right _ (rd_mem (l := l) (i := i - 1) (by omega) (by omega))
      rw [if_pos hi, wrap_id (n := i - 1) (by omega) (by omega), if_pos (by omega), if_pos (by omega), one_eq _ _ (by have := hq.a2; have := hq.a1; have := hq.n1; omega)]
      simp only [Option.bind_some]
      rw [decide_eq_false (body_apart h i hi hlt)]
      exact hj
    · rw [if_neg hi]; exact hj
theorem rvalid_ev {l : List S58} (h : Body l) : Ev (fun k => r08_Valid.f k l) true := by
  have := body_len h.right
  have := h.size
  refine ⟨2 * l.length + 2, fun k hk => ?_⟩
  unfold r08_Valid.f
  exact rvalid_any h (by omega) l.length _ 0 0 (by omega) (by omega) (by omega) hk (by simpa using h.size) (by omega)

theorem rsize_any (l : List S58) (hr : ∀ p ∈ l, Rt p) (hm : l.length ≤ 1048576) : ∀ (d : Nat) (i s : Int), 0 ≤ i → i ≤ l.length → (l.length : Int) - i = d → 0 ≤ s → sz (l.drop i.toNat) + s ≤ 1099511627776 → Ev (fun k => r08_Size.l0 k l s i) (s + sz (l.drop i.toNat)) := by
  intro d
  induction d with
  | zero =>
    intro i s h0 h1 hd _ _
    refine Ev.round ?_
    simp only [r08_Size.l0]
    refine Ev.neg (by omega) ?_
    rw [List.drop_of_length_le (by omega)]
    simp only [sz, Int.add_zero]
    exact Ev.now _
  | succ d ih =>
    intro i s h0 h1 hd h2 hs
    have hlt : i < (l.length : Int) := by omega
    have hR := hr _ (rd_mem h0 hlt)
    rw [sz_drop l i h0 hlt] at hs ⊢
    have hz : 0 ≤ sz (l.drop (i + 1).toNat) := sz_pos (fun p hp => hr p (List.mem_of_mem_drop hp))
    have := hR.n1
    refine Ev.round ?_
    simp only [r08_Size.l0]
    refine Ev.pos hlt (Ev.pos h0 ?_)
    rw [wrap_id (n := s + (rd_T58 l i).f2) (by omega) (by omega), wrap_id (n := i + 1) (by omega) (by omega), ← Int.add_assoc]
    exact ih (i + 1) _ (by omega) (by omega) (by omega) (by omega) (by omega)
theorem rsize_ev {l : List S58} (h : Body l) : Ev (fun k => r08_Size.f k l) (sz l) := by
  have := body_len h.right
  have := h.size
  have := rsize_any l h.right (by omega) l.length 0 0 (by omega) (by omega) (by omega) (by omega) (by simp only [Int.add_zero]; simp; omega)
  rw [show (0 : Int).toNat = 0 from rfl, List.drop_zero, Int.zero_add] at this
  exact this
theorem sizeW_eq {l : List S58} (h : Body l) : sizeW l = sz l := by
  have key : ∀ (l : List S58) (s : Int), (∀ p ∈ l, Rt p) → 0 ≤ s → s + sz l ≤ 1048576 → l.foldl (fun n p => wrap64 (n + p.f2)) s = s + sz l := by
    intro l
    induction l with
    | nil => intro s _ _ _; simp [sz]
    | cons p l ih =>
      intro s hr h0 hs
      simp only [sz] at hs
      have hz := sz_pos (l := l) (fun q hq => hr q (List.mem_cons_of_mem _ hq))
      have := (hr p List.mem_cons_self).n1
      rw [List.foldl_cons, wrap_id (by omega) (by omega), ih _ (fun q hq => hr q (List.mem_cons_of_mem _ hq)) (by omega) (by omega)]
      simp only [sz]; omega
  have := key l 0 h.right (by omega) (by have := h.size; omega)
  unfold sizeW; rw [this]; omega
theorem size_ev {l : List S58} (h : Body l) : Ev (fun k => extent_Size.f k l) (sz l) := by
  have h1 := body_len h.right
  have h2 := h.size
  refine Ev.of (fun k => ?_) (k := l.length + 1) ?_
  · exact extent_Size.mono l k
  · rw [size_all l (by omega), sizeW_eq h]

theorem betw_eq : ∀ (b : List S58) (lo hi : Int), (∀ p ∈ b, Rt p) → -1099511627776 ≤ lo → lo ≤ 1099511627776 → -1099511627776 ≤ hi → hi ≤ 1099511627776 → sz b ≤ 1099511627776 + lo → sz b ≤ 1099511627776 + hi → betw b lo hi = bw b lo hi
  | [], _, _, _, _, _, _, _, _, _ => rfl
  | p :: b, lo, hi, hr, h1, h2, h3, h4, h5, h6 => by
    obtain ⟨_, hn1, hn2, ha1, ha2, _, _⟩ := hr p List.mem_cons_self
    have hz := sz_pos (l := b) (fun q hq => hr q (List.mem_cons_of_mem _ hq))
    simp only [sz] at h5 h6
    simp only [betw, bw, mx_eq, mn_eq]
    rw [wrap_id (n := lo - p.f2) (by omega) (by omega), wrap_id (n := hi - p.f2) (by omega) (by omega), wrap_id (n := min p.f2 hi - max 0 lo) (by omega) (by omega), wrap_id (n := p.f1 + max 0 lo) (by omega) (by omega),
      betw_eq b (lo - p.f2) (hi - p.f2) (fun q hq => hr q (List.mem_cons_of_mem _ hq)) (by omega) (by omega) (by omega) (by omega) (by omega) (by omega)]

instance : DecidableEq S58 := fun p q => decidable_of_iff (p.f0 = q.f0 ∧ p.f1 = q.f1 ∧ p.f2 = q.f2) ⟨fun h => by obtain ⟨a, b, c⟩ := p; obtain ⟨d, e, f⟩ := q; obtain ⟨h1, h2, h3⟩ := h; dsimp only at h1 h2 h3; rw [h1, h2, h3], fun h => by rw [h]; exact ⟨rfl, rfl, rfl⟩⟩
instance : DecidableEq S32 := fun p q => decidable_of_iff (p.f0 = q.f0 ∧ p.f1 = q.f1) ⟨fun h => by obtain ⟨a, b⟩ := p; obtain ⟨d, e⟩ := q; obtain ⟨h1, h2⟩ := h; dsimp only at h1 h2; rw [h1, h2], fun h => by rw [h]; exact ⟨rfl, rfl⟩⟩

theorem ne_58 (p q : S58) : ((!((p.f0) == (q.f0))) || ((!((p.f1) == (q.f1))) || (!((p.f2) == (q.f2))))) = decide (p ≠ q) := by
  obtain ⟨a, b, c⟩ := p
  obtain ⟨d, e, f⟩ := q
  rw [Bool.eq_iff_iff]
  simp only [Bool.or_eq_true, Bool.not_eq_true', beq_eq_false_iff_ne, decide_eq_true_eq, ne_eq, S58.mk.injEq]
  omega
theorem ne_32 (p q : S32) : ((!((p.f0) == (q.f0))) || (!((p.f1) == (q.f1)))) = decide (p ≠ q) := by
  obtain ⟨a, b⟩ := p
  obtain ⟨d, e⟩ := q
  rw [Bool.eq_iff_iff]
  simp only [Bool.or_eq_true, Bool.not_eq_true', beq_eq_false_iff_ne, decide_eq_true_eq, ne_eq, S32.mk.injEq]
  omega
theorem rd_get {l : List S58} {i : Nat} (h : i < l.length) : rd_T58 l (i : Int) = l[i] := by
  unfold rd_T58
  rw [Int.toNat_natCast, List.getD_eq_getElem?_getD, List.getElem?_eq_getElem h]; rfl
theorem rd_get32 {l : List S32} {i : Nat} (h : i < l.length) : rd_T32 l (i : Int) = l[i] := by
  unfold rd_T32
  rw [Int.toNat_natCast, List.getD_eq_getElem?_getD, List.getElem?_eq_getElem h]; rfl
theorem drop_eq_iff {α : Type} [DecidableEq α] {a b : List α} {i : Nat} (ha : i < a.length) (hb : i < b.length) : decide (a.drop i = b.drop i) = if a[i] ≠ b[i] then false else decide (a.drop (i + 1) = b.drop (i + 1)) := by
  have ea := List.drop_eq_getElem_cons ha
  have eb := List.drop_eq_getElem_cons hb
  by_cases h : a[i] = b[i]
  · rw [if_neg (fun k => k h), decide_eq_decide, ea, eb, h]
    exact ⟨fun k => (List.cons.inj k).2, fun k => by rw [k]⟩
  · rw [if_pos h, decide_eq_false]
    intro k
    rw [ea, eb] at k
    exact h (List.cons.inj k).1

theorem same_any (a b : List S58) (hl : a.length = b.length) (hm : a.length ≤ 4611686018427387904) : ∀ (d i : Nat), i ≤ a.length → a.length - i = d → Ev (fun k => r08_Same.l0 k a b (i : Int)) (decide (a.drop i = b.drop i)) := by
  intro d
  induction d with
  | zero =>
    intro i h1 hd
    refine Ev.round ?_
    simp only [r08_Same.l0]
    refine Ev.neg (by omega) ?_
    rw [List.drop_of_length_le (by omega), List.drop_of_length_le (by omega)]
    exact Ev.now _
  | succ d ih =>
    intro i h1 hd
    refine Ev.round ?_
    simp only [r08_Same.l0, ne_58, decide_eq_true_eq]
    rw [rd_get (by omega), rd_get (l := b) (by omega), wrap_id (by omega) (by omega), drop_eq_iff (a := a) (by omega) (by omega)]
    refine Ev.pos (by omega) (Ev.pos (by omega) (Ev.pos (by omega) ?_))
    by_cases h : a[i] ≠ b[i]
    · rw [if_pos h]; exact Ev.pos h (Ev.now _)
    · rw [if_neg h]; exact Ev.neg h (ih (i + 1) (by omega) (by omega))
theorem same_ev (a b : List S58) (hm : a.length ≤ 4611686018427387904) : Ev (fun k => r08_Same.f k a b) (decide (a = b)) := by
  unfold r08_Same.f
  by_cases h : a.length = b.length
  · refine Ev.pos (by omega) ?_
    exact same_any a b h hm a.length 0 (by omega) (by omega)
  · refine Ev.neg (by omega) ?_
    rw [decide_eq_false (fun e => h (by rw [e]))]
    exact Ev.now _
theorem bytes_any (a b : List S32) (hl : a.length = b.length) (hm : a.length ≤ 4611686018427387904) : ∀ (d i : Nat), i ≤ a.length → a.length - i = d → Ev (fun k => r08_SameBytes.l0 k a b (i : Int)) (decide (a.drop i = b.drop i)) := by
  intro d
  induction d with
  | zero =>
    intro i h1 hd
    refine Ev.round ?_
    simp only [r08_SameBytes.l0]
    refine Ev.neg (by omega) ?_
    rw [List.drop_of_length_le (by omega), List.drop_of_length_le (by omega)]
    exact Ev.now _
  | succ d ih =>
    intro i h1 hd
    refine Ev.round ?_
    simp only [r08_SameBytes.l0, ne_32, decide_eq_true_eq]
    rw [rd_get32 (by omega), rd_get32 (l := b) (by omega), wrap_id (by omega) (by omega), drop_eq_iff (a := a) (by omega) (by omega)]
    refine Ev.pos (by omega) (Ev.pos (by omega) (Ev.pos (by omega) ?_))
    by_cases h : a[i] ≠ b[i]
    · rw [if_pos h]; exact Ev.pos h (Ev.now _)
    · rw [if_neg h]; exact Ev.neg h (ih (i + 1) (by omega) (by omega))
theorem bytes_ev (a b : List S32) (hm : a.length ≤ 4611686018427387904) : Ev (fun k => r08_SameBytes.f k a b) (decide (a = b)) := by
  unfold r08_SameBytes.f
  by_cases h : a.length = b.length
  · refine Ev.pos (by omega) ?_
    exact bytes_any a b h hm a.length 0 (by omega) (by omega)
  · refine Ev.neg (by omega) ?_
    rw [decide_eq_false (fun e => h (by rw [e]))]
    exact Ev.now _
theorem same_res (a b : List S58) (x y : Int) (hm : a.length ≤ 4611686018427387904) : Ev (fun k => l08_same.f k a x b y) (decide (a = b) && (x == y)) := by
  unfold l08_same.f
  refine Ev.bind (same_ev a b hm) ?_
  by_cases h : a = b
  · rw [decide_eq_true h]; exact Ev.pos rfl (Ev.is (by simp))
  · rw [decide_eq_false h]; exact Ev.neg (by decide) (Ev.is (by simp))

/-! ### the small bodies -/
/-- The bytes of the small bodies. -/
structure MX (x : List (Int × Int)) : Prop where
  bx : BX x
  len : x.length ≤ 72
  i4 : ∀ b ∈ x, b.1 ≤ 4
  a30 : ∀ b ∈ x, b.2 < 30
/-- What Made makes of a piece. -/
def Mk (p : S58) : Prop := wf p ∧ -1 ≤ p.f0 ∧ p.f0 ≤ 4 ∧ 0 ≤ p.f1 ∧ p.f1 < 20 ∧ 1 ≤ p.f2 ∧ p.f2 ≤ 9
theorem each_len : ∀ (l : List S58), (∀ p ∈ l, p.f2 ≤ 9) → (each l).length ≤ 9 * l.length
  | [], _ => by simp [each]
  | p :: l, h => by
    have := each_len l (fun q hq => h q (List.mem_cons_of_mem _ hq))
    have := h p List.mem_cons_self
    rw [each_cons, List.length_append, bs_length, List.length_cons]; omega
theorem sumP_len : ∀ (l : List S58), (∀ p ∈ l, p.f2 ≤ 9) → sumP l ≤ 9 * l.length
  | [], _ => by simp [sumP]
  | p :: l, h => by
    have := sumP_len l (fun q hq => h q (List.mem_cons_of_mem _ hq))
    have := h p List.mem_cons_self
    simp only [sumP, List.length_cons]; omega
theorem mx_of {l : List S58} (h : ∀ p ∈ l, Mk p) (hl : l.length ≤ 8) : MX (each l) := by
  have key : ∀ b ∈ each l, (-1 ≤ b.1 ∧ b.1 ≤ 4) ∧ 0 ≤ b.2 ∧ b.2 < 30 := by
    intro b hb
    obtain ⟨p, hp, hb⟩ := List.mem_flatMap.1 hb
    obtain ⟨h1, h2, h3, h4, h5, h6, h7⟩ := h p hp
    simp only [bs, List.mem_map, List.mem_range] at hb
    obtain ⟨k, hk, rfl⟩ := hb
    dsimp only
    split <;> omega
  have hlen := each_len l (fun p hp => (h p hp).2.2.2.2.2.2)
  exact ⟨⟨wfB_each l, fun b hb => (key b hb).1.1, fun b hb => by have := (key b hb).1.2; omega, fun b hb => (key b hb).2.1, fun b hb => by have := (key b hb).2.2; omega, by omega⟩, by omega, fun b hb => (key b hb).1.2, fun b hb => (key b hb).2.2⟩

theorem ids_rd (j : Int) (h0 : 0 ≤ j) (h1 : j < 8) : -1 ≤ rd ([1, 2, 3, 4, 1, 2, 0, (-1)] : List Int) j ∧ rd ([1, 2, 3, 4, 1, 2, 0, (-1)] : List Int) j ≤ 4 := by
  obtain ⟨n, rfl⟩ : ∃ n : Nat, j = n := ⟨j.toNat, by omega⟩
  have hn : n < 8 := by omega
  revert hn
  have : ∀ m : Fin 8, -1 ≤ rd ([1, 2, 3, 4, 1, 2, 0, (-1)] : List Int) ((m.1 : Nat) : Int) ∧ rd ([1, 2, 3, 4, 1, 2, 0, (-1)] : List Int) ((m.1 : Nat) : Int) ≤ 4 := by decide
  intro hn
  exact this ⟨n, hn⟩

def U8 (x : S37) : Prop := ((Lit.int .u8 x.f0).wf = true) ∧ (((Lit.int .u8 x.f1).wf = true) ∧ ((Lit.int .u8 x.f2).wf = true))
theorem made_any (x0 : List S37) (hx : ∀ x ∈ x0, U8 x) : ∀ (d : Nat) (i : Int) (l : List S58), 0 ≤ i → i ≤ 8 → 8 - i = d → i ≤ x0.length → (l.length : Int) = i → (∀ p ∈ l, Mk p) →
    ∃ x, MX x ∧ Ev (fun k => r08_Made.l0 k x0 l i) (nf x) := by
  have done : ∀ (i : Int) (l : List S58), i ≤ 8 → (l.length : Int) = i → (∀ p ∈ l, Mk p) → MX (each l) ∧ Ev (fun k => r08_Made.j1 k x0 l i false) (nf (each l)) := by
    intro i l hi hl hp
    refine ⟨mx_of hp (by omega), Ev.round ?_⟩
    simp only [r08_Made.j1]
    refine Ev.neg (by decide) ?_
    have hs := sumP_len l (fun p h => (hp p h).2.2.2.2.2.2)
    refine Ev.bind (norm_nf l (by omega) (fun p h => (hp p h).1) (fun p h => by have := (hp p h).2.2.2; omega) (by omega)) (Ev.now _)
  intro d
  induction d with
  | zero =>
    intro i l h0 h8 hd hi hl hp
    obtain ⟨h1, h2⟩ := done i l (by omega) hl hp
    refine ⟨_, h1, Ev.round ?_⟩
    simp only [r08_Made.l0]
    rw [decide_eq_false (show ¬ i < 8 by omega)]
    exact Ev.congr (fun k => ite_self _) h2
  | succ d ih =>
    intro i l h0 h8 hd hi hl hp
    by_cases hlt : i < (x0.length : Int)
    · have hu : U8 (rd_T37 x0 i) := by
        refine hx _ ?_
        unfold rd_T37
        rw [List.getD_eq_getElem?_getD, List.getElem?_eq_getElem (by omega)]
        exact List.getElem_mem _
      obtain ⟨u0, u1, u2⟩ := hu
      obtain ⟨a0, b0⟩ := bounds_u8 u0
      obtain ⟨a1, b1⟩ := bounds_u8 u1
      obtain ⟨a2, b2⟩ := bounds_u8 u2
      have e0 := Int.tmod_eq_emod_of_nonneg (b := 8) a0
      have e1 := Int.tmod_eq_emod_of_nonneg (b := 20) a1
      have e2 := Int.tmod_eq_emod_of_nonneg (b := 9) a2
      have hr := ids_rd (Int.tmod (rd_T37 x0 i).f0 8) (by omega) (by omega)
      have step : ∀ p : S58, Mk p → ∃ x, MX x ∧ Ev (fun k => r08_Made.l0 k x0 (l ++ [p]) (i + 1)) (nf x) := by
        intro p hp1
        refine ih (i + 1) (l ++ [p]) (by omega) (by omega) (by omega) (by omega) (by simp; omega) ?_
        intro q hq
        rcases List.mem_append.1 hq with hq | hq
        · exact hp q hq
        · rw [List.mem_singleton] at hq; subst hq; exact hp1
      have w1 : wrap64 (1 + Int.tmod (wrap64 (rd_T37 x0 i).f2) 9) = 1 + Int.tmod (rd_T37 x0 i).f2 9 := by
        rw [wrap_id (n := (rd_T37 x0 i).f2) (by omega) (by omega), wrap_id (by omega) (by omega)]
      have w2 : wrap64 (rd_T37 x0 i).f1 = (rd_T37 x0 i).f1 := wrap_id (by omega) (by omega)
      have w3 : wrap64 (i + 1) = i + 1 := wrap_id (by omega) (by omega)
      by_cases hpos : rd ([1, 2, 3, 4, 1, 2, 0, (-1)] : List Int) (Int.tmod (rd_T37 x0 i).f0 8) > 0
      · obtain ⟨x, h1, h2⟩ := step ⟨rd ([1, 2, 3, 4, 1, 2, 0, (-1)] : List Int) (Int.tmod (rd_T37 x0 i).f0 8), Int.tmod (rd_T37 x0 i).f1 20, 1 + Int.tmod (rd_T37 x0 i).f2 9⟩ ⟨fun h => by dsimp only at h; omega, by dsimp only; omega, by dsimp only; omega, by dsimp only; omega, by dsimp only; omega, by dsimp only; omega, by dsimp only; omega⟩
        refine ⟨x, h1, Ev.round ?_⟩
        simp only [r08_Made.l0]
        refine Ev.pos hlt ?_
        rw [decide_eq_true (show i < 8 by omega)]
        refine Ev.round ?_
        simp only [r08_Made.j1, Option.bind_some, w1, w2, w3]
        refine Ev.pos trivial (Ev.pos h0 (Ev.pos hlt (Ev.pos (by omega) (Ev.pos (by simp; omega) (Ev.pos hpos (Ev.pos (by omega) h2))))))
      · obtain ⟨x, h1, h2⟩ := step ⟨rd ([1, 2, 3, 4, 1, 2, 0, (-1)] : List Int) (Int.tmod (rd_T37 x0 i).f0 8), 0, 1 + Int.tmod (rd_T37 x0 i).f2 9⟩ ⟨fun h => rfl, by dsimp only; omega, by dsimp only; omega, by dsimp only; omega, by dsimp only; omega, by dsimp only; omega, by dsimp only; omega⟩
        refine ⟨x, h1, Ev.round ?_⟩
        simp only [r08_Made.l0]
        refine Ev.pos hlt ?_
        rw [decide_eq_true (show i < 8 by omega)]
        refine Ev.round ?_
        simp only [r08_Made.j1, Option.bind_some, w1, w2, w3]
        refine Ev.pos trivial (Ev.pos h0 (Ev.pos hlt (Ev.pos (by omega) (Ev.pos (by simp; omega) (Ev.neg hpos (Ev.pos (by omega) h2))))))
    · obtain ⟨h1, h2⟩ := done i l (by omega) hl hp
      refine ⟨_, h1, Ev.round ?_⟩
      simp only [r08_Made.l0]
      exact Ev.neg hlt h2

theorem made_ev (x0 : List S37) (h : x0.length ≤ maxLen ∧ x0.length * 3 ≤ 140737488351232 ∧ ∀ x1_ ∈ x0, ((Lit.int .u8 x1_.f0).wf = true) ∧ (((Lit.int .u8 x1_.f1).wf = true) ∧ ((Lit.int .u8 x1_.f2).wf = true))) : ∃ x, MX x ∧ Ev (fun k => r08_Made.f k x0) (nf x) :=
  made_any x0 h.2.2 8 0 [] (by omega) (by omega) (by omega) (by omega) rfl (fun _ h => by cases h)

theorem each_body {x : List (Int × Int)} (h : BX x) : Ev (fun k => r08_Each.f k (nf x)) (x.map toS) := by
  have hb := body_nf h
  have hl := body_len hb.right
  have hs := hb.size
  have := each_eS (nf x) (fun p hp => by obtain ⟨_, _, _, _, _, _, _⟩ := hb.right p hp; omega) (by omega) (by rw [each_nf x h.wf]; have := h.len; omega)
  unfold eS at this
  rw [each_nf x h.wf] at this
  exact this
theorem nf_inj {x y : List (Int × Int)} (hx : ∀ b ∈ x, wfB b) (hy : ∀ b ∈ y, wfB b) (h : nf x = nf y) : x = y := by rw [← each_nf x hx, ← each_nf y hy, h]
theorem toS_inj {x y : List (Int × Int)} (h : x.map toS = y.map toS) : x = y := by
  have : ∀ z : List (Int × Int), (z.map toS).map ofS = z := fun z => by rw [List.map_map]; exact (List.map_congr_left (fun b _ => rfl)).trans (List.map_id z)
  rw [← this x, h, this]

/-- Cutting pieces is cutting bytes. -/
theorem betw_nf {x : List (Int × Int)} (h : BX x) (lo hi : Int) (h1 : 0 ≤ lo) (h2 : lo ≤ 4194304) (h3 : 0 ≤ hi) (h4 : hi ≤ 4194304) :
    betw (nf x) lo hi = bw (nf x) lo hi ∧ each (bw (nf x) lo hi) = (x.take hi.toNat).drop lo.toNat ∧ ∀ p ∈ bw (nf x) lo hi, wf p := by
  have hb := body_nf h
  have hs := hb.size
  refine ⟨betw_eq (nf x) lo hi hb.right (by omega) (by omega) (by omega) (by omega) (by omega) (by omega), ?_, wf_bw _ _ _ (fun p hp => (hb.right p hp).wf)⟩
  rw [each_bw _ _ _ (fun p hp => by have := (hb.right p hp).n1; omega), each_nf x h.wf]

theorem sumP_each : ∀ l : List S58, sumP l = (each l).length
  | [] => rfl
  | p :: l => by rw [each_cons, List.length_append, bs_length, sumP, sumP_each l]; omega
theorem sumP_append (a b : List S58) : sumP (a ++ b) = sumP a + sumP b := by rw [sumP_each, sumP_each, sumP_each, each_append, List.length_append]; omega
theorem bw_from : ∀ (b : List S58) (lo hi : Int), (∀ p ∈ b, Rt p) → lo ≤ 2097152 → ∀ p ∈ bw b lo hi, 0 ≤ p.f1 ∧ p.f1 ≤ 4194304
  | [], _, _, _, _, p, hp => by simp [bw] at hp
  | q :: b, lo, hi, hr, hl, p, hp => by
    have hq := hr q List.mem_cons_self
    have hq1 := hq.a1
    have hq2 := hq.a2
    have hq3 := hq.n1
    have ih := bw_from b (lo - q.f2) (hi - q.f2) (fun r hr' => hr r (List.mem_cons_of_mem _ hr')) (by omega)
    simp only [bw] at hp
    split at hp
    · exact ih p hp
    · rcases List.mem_cons.1 hp with rfl | hp
      · dsimp only
        split <;> omega
      · exact ih p hp

/-- What is between, of a body of bytes. -/
theorem betw_all {x : List (Int × Int)} (h : BX x) (lo hi : Int) (h1 : 0 ≤ lo) (h2 : lo ≤ 2097152) (h3 : 0 ≤ hi) (h4 : hi ≤ 4194304) :
    each (betw (nf x) lo hi) = (x.take hi.toNat).drop lo.toNat ∧ (∀ p ∈ betw (nf x) lo hi, wf p) ∧ (∀ p ∈ betw (nf x) lo hi, 0 ≤ p.f1 ∧ p.f1 ≤ 4194304) ∧ sumP (betw (nf x) lo hi) ≤ 1048576 := by
  obtain ⟨e, h5, h6⟩ := betw_nf h lo hi h1 (by omega) h3 h4
  rw [e]
  refine ⟨h5, h6, bw_from _ _ _ (body_nf h).right h2, ?_⟩
  rw [sumP_each, h5, List.length_drop, List.length_take]
  have := h.len
  omega

/-- Before which index a part ends. -/
def hiOf (off n : Int) : Nat := if n ≤ 0 then 0 else (off + n).toNat
/-- The part of some bytes. -/
def seg (x : List (Int × Int)) (off n : Int) : List (Int × Int) := (x.take (hiOf off n)).drop off.toNat
theorem bx_seg {x : List (Int × Int)} (h : BX x) (off n : Int) : BX (seg x off n) := bx_drop (bx_take h _) _

theorem nf_nil : nf [] = [] := rfl
theorem part_eq {x : List (Int × Int)} (h : BX x) (off n : Int) (ho : -9223372036854775808 ≤ off ∧ off ≤ 9223372036854775807) (hn : -9223372036854775808 ≤ n ∧ n ≤ 9223372036854775807) :
    extent_Part.f (nf x) off n = some (nf (seg x off n)) := by
  have hb := body_nf h
  have hlen := h.len
  have key : ∀ lo hi : Int, 0 ≤ lo → lo ≤ 1048576 → 0 ≤ hi → hi ≤ 1048576 → joinAll [] (betw (nf x) lo hi) = some (nf ((x.take hi.toNat).drop lo.toNat)) := by
    intro lo hi h1 h2 h3 h4
    obtain ⟨e1, e2, e3, e4⟩ := betw_all h lo hi h1 (by omega) h3 (by omega)
    rw [joinAll_nf _ e2 e3 (by omega), e1]
  unfold extent_Part.f
  rw [sizeW_eq hb, sz_nf h.wf]
  unfold seg hiOf
  by_cases h1 : n ≤ 0
  · rw [if_pos (.inl h1), if_pos h1]; simp [nf_nil]
  rw [if_neg h1]
  by_cases h2 : off ≥ (x.length : Int)
  · rw [if_pos (.inr h2), List.drop_of_length_le (by rw [List.length_take]; omega), nf_nil]
  rw [if_neg (by omega)]
  by_cases h3 : off < 0
  · rw [if_pos h3, wrap_id (n := off + n) (by omega) (by omega), show off.toNat = 0 by omega, List.drop_zero]
    by_cases h4 : off + n ≤ 0
    · rw [if_pos h4, show (off + n).toNat = 0 by omega]; simp [nf_nil]
    · rw [if_neg h4, mn_eq, wrap_id (n := (x.length : Int) - 0) (by omega) (by omega), wrap_id (by omega) (by omega), key _ _ (by omega) (by omega) (by omega) (by omega)]
      rw [show (0 : Int).toNat = 0 from rfl, List.drop_zero]
      congr 2
      by_cases h5 : off + n ≤ (x.length : Int)
      · congr 1; omega
      · rw [List.take_of_length_le (by omega), List.take_of_length_le (by omega)]
  · rw [if_neg h3, mn_eq, wrap_id (n := (x.length : Int) - off) (by omega) (by omega), wrap_id (by omega) (by omega), key _ _ (by omega) (by omega) (by omega) (by omega)]
    congr 3
    by_cases h5 : off + n ≤ (x.length : Int)
    · congr 1; omega
    · rw [List.take_of_length_le (by omega), List.take_of_length_le (by omega)]

theorem Ev.ite {α : Type} {c : Prop} [Decidable c] {g f : Nat → Option α} {r : α} (h : c → Ev g r) (k : ¬ c → Ev f r) : Ev (fun n => if c then g n else f n) r := by
  by_cases hc : c
  · exact Ev.pos hc (h hc)
  · exact Ev.neg hc (k hc)

/-- Bytes with a chunk put from byte o on. -/
def putX (x : List (Int × Int)) (o m : Nat) (id : Int) : List (Int × Int) := x.take o ++ (List.replicate (o - x.length) (0, 0) ++ ((List.range m).map (fun (k : Nat) => (id, (k : Int))) ++ x.drop (o + m)))
/-- Bytes cut at byte o. -/
def cutX (x : List (Int × Int)) (o : Nat) : List (Int × Int) := x.take o ++ List.replicate (o - x.length) (0, 0)
theorem putX_len (x : List (Int × Int)) (o m : Nat) (id : Int) : (putX x o m id).length = max x.length (o + m) := by
  simp only [putX, List.length_append, List.length_take, List.length_replicate, List.length_map, List.length_range, List.length_drop]; omega
theorem cutX_len (x : List (Int × Int)) (o : Nat) : (cutX x o).length = o := by
  simp only [cutX, List.length_append, List.length_take, List.length_replicate]; omega
theorem putX_get (x : List (Int × Int)) (o m : Nat) (id : Int) (i : Nat) (h : i < (putX x o m id).length) : (putX x o m id)[i] = if o ≤ i ∧ i < o + m then (id, (i : Int) - o) else x.getD i (0, 0) := by
  have hl := putX_len x o m id
  simp only [putX, List.getElem_append, List.length_take, List.length_replicate, List.length_map, List.length_range, List.getElem_take, List.getElem_replicate, List.getElem_map, List.getElem_range, List.getElem_drop]
  by_cases h1 : i < min o x.length
  · rw [dif_pos h1, if_neg (by omega), List.getD_eq_getElem?_getD, List.getElem?_eq_getElem (by omega)]; rfl
  rw [dif_neg h1]
  by_cases h2 : i - min o x.length < o - x.length
  · rw [dif_pos h2, if_neg (by omega), List.getD_eq_getElem?_getD, List.getElem?_eq_none (by omega)]; rfl
  rw [dif_neg h2]
  by_cases h3 : i - min o x.length - (o - x.length) < m
  · rw [dif_pos h3, if_pos (by omega)]
    congr 1; omega
  · rw [dif_neg h3, if_neg (by omega), List.getD_eq_getElem?_getD, List.getElem?_eq_getElem (by omega)]
    simp only [Option.getD_some]
    congr 1; omega
theorem cutX_get (x : List (Int × Int)) (o : Nat) (i : Nat) (h : i < (cutX x o).length) : (cutX x o)[i] = x.getD i (0, 0) := by
  have hl := cutX_len x o
  simp only [cutX, List.getElem_append, List.length_take, List.getElem_take, List.getElem_replicate]
  by_cases h1 : i < min o x.length
  · rw [dif_pos h1, List.getD_eq_getElem?_getD, List.getElem?_eq_getElem (by omega)]; rfl
  · rw [dif_neg h1, List.getD_eq_getElem?_getD, List.getElem?_eq_none (by omega)]; rfl

theorem bs_hole (m : Int) : bs ⟨0, 0, m⟩ = List.replicate m.toNat (0, 0) := by
  simp only [bs]
  rw [List.eq_replicate_iff]
  refine ⟨by simp, fun b hb => ?_⟩
  simp only [List.mem_map] at hb
  obtain ⟨k, _, rfl⟩ := hb
  rfl
theorem bs_chunk (id m : Int) (h : 1 ≤ id) : bs ⟨id, 0, m⟩ = (List.range m.toNat).map (fun (k : Nat) => (id, (k : Int))) := by
  simp only [bs]
  refine List.map_congr_left fun k _ => ?_
  rw [if_pos (by omega)]; simp
theorem bx_rep {m : Nat} (h : m ≤ 1048576) : BX (List.replicate m (0, 0)) := by
  refine ⟨?_, ?_, ?_, ?_, ?_, by simpa using h⟩ <;> intro b hb <;> obtain ⟨_, rfl⟩ := List.mem_replicate.1 hb
  · intro _; rfl
  all_goals decide
theorem bx_chunk {m : Nat} {id : Int} (h : m ≤ 1048576) (h1 : 1 ≤ id) (h2 : id ≤ 4095) : BX ((List.range m).map (fun (k : Nat) => (id, (k : Int)))) := by
  refine ⟨?_, ?_, ?_, ?_, ?_, by simpa using h⟩ <;> intro b hb <;> obtain ⟨k, hk, rfl⟩ := List.mem_map.1 hb <;> have hk' := List.mem_range.1 hk
  · intro h3; dsimp only at h3; omega
  all_goals (dsimp only; omega)
theorem bx_put {x : List (Int × Int)} (h : BX x) (o m : Nat) (id : Int) (ho : o + m ≤ 1048576) (h1 : 1 ≤ id) (h2 : id ≤ 4095) : BX (putX x o m id) := by
  have hl := h.len
  unfold putX
  refine bx_append (bx_take h _) (bx_append (bx_rep (by omega)) (bx_append (bx_chunk (by omega) h1 h2) (bx_drop h _) ?_) ?_) ?_ <;> simp only [List.length_append, List.length_take, List.length_replicate, List.length_map, List.length_range, List.length_drop] <;> omega
theorem bx_cut {x : List (Int × Int)} (h : BX x) (o : Nat) (ho : o ≤ 1048576) : BX (cutX x o) := by
  unfold cutX
  refine bx_append (bx_take h _) (bx_rep (by omega)) ?_
  simp only [List.length_take, List.length_replicate]; omega

theorem put_eq {x : List (Int × Int)} (h : BX x) (off id n : Int) (h1 : 0 ≤ off) (h2 : 1 ≤ n) (h3 : off + n ≤ 1048576) (h4 : 1 ≤ id) (h5 : id ≤ 4095) :
    l08_put.f (nf x) off id n = some (nf (putX x off.toNat n.toNat id), 0) := by
  have hb := body_nf h
  have hl := h.len
  obtain ⟨e1, e2, e3, e4⟩ := betw_all h 0 off (by omega) (by omega) h1 (by omega)
  obtain ⟨f1, f2, f3, f4⟩ := betw_all h (off + n) 1048576 (by omega) (by omega) (by omega) (by omega)
  have e9 : x.take (1048576 : Int).toNat = x := List.take_of_length_le (by omega)
  rw [e9] at f1
  unfold l08_put.f extent_Put.f
  rw [valid_eq hb]
  simp only [Option.bind_some]
  rw [if_pos trivial, if_neg (by omega), if_neg (by omega), if_neg (by omega), if_neg (by omega), if_neg (by omega), wrap_id (n := 1048576 - off) (by omega) (by omega), if_neg (by omega),
    sizeW_eq hb, sz_nf h.wf, wrap_id (n := off - x.length) (by omega) (by omega), wrap_id (n := off + n) (by omega) (by omega)]
  rw [joinAll_nf]
  · simp only [Option.bind_some, Option.some.injEq, Prod.mk.injEq, and_true]
    congr 1
    rw [each_append, each_append, each_append, e1, f1]
    simp only [each, List.flatMap_cons, List.flatMap_nil, List.append_nil]
    rw [bs_hole, bs_chunk id n h4]
    unfold putX
    rw [show (0 : Int).toNat = 0 from rfl, List.drop_zero, show (off - (x.length : Int)).toNat = off.toNat - x.length by omega, show (off + n).toNat = off.toNat + n.toNat by omega]
  · intro p hp
    simp only [List.mem_append, List.mem_singleton] at hp
    rcases hp with hp | rfl | rfl | hp
    · exact e2 p hp
    · intro _; rfl
    · intro _; rfl
    · exact f2 p hp
  · intro p hp
    simp only [List.mem_append, List.mem_singleton] at hp
    rcases hp with hp | rfl | rfl | hp
    · exact e3 p hp
    · dsimp only; omega
    · dsimp only; omega
    · exact f3 p hp
  · rw [sumP_append, sumP_append, sumP_append]
    simp only [sumP]
    omega

theorem cut_eq {x : List (Int × Int)} (h : BX x) (n : Int) (h1 : 0 ≤ n) (h2 : n ≤ 1048576) : l08_cut.f (nf x) n = some (nf (cutX x n.toNat), 0) := by
  have hb := body_nf h
  have hl := h.len
  obtain ⟨e1, e2, e3, e4⟩ := betw_all h 0 n (by omega) (by omega) h1 (by omega)
  unfold l08_cut.f extent_Cut.f
  rw [valid_eq hb]
  simp only [Option.bind_some]
  rw [if_pos trivial, if_neg (by omega), if_neg (by omega), sizeW_eq hb, sz_nf h.wf, wrap_id (n := n - x.length) (by omega) (by omega)]
  rw [joinAll_nf]
  · simp only [Option.bind_some, Option.some.injEq, Prod.mk.injEq, and_true]
    congr 1
    rw [each_append, e1]
    simp only [each, List.flatMap_cons, List.flatMap_nil, List.append_nil]
    rw [bs_hole]
    unfold cutX
    rw [show (0 : Int).toNat = 0 from rfl, List.drop_zero, show (n - (x.length : Int)).toNat = n.toNat - x.length by omega]
  · intro p hp
    simp only [List.mem_append, List.mem_singleton] at hp
    rcases hp with hp | rfl
    · exact e2 p hp
    · intro _; rfl
  · intro p hp
    simp only [List.mem_append, List.mem_singleton] at hp
    rcases hp with hp | rfl
    · exact e3 p hp
    · dsimp only; omega
  · rw [sumP_append]
    simp only [sumP]
    omega

theorem len_nf {x : List (Int × Int)} (h : BX x) : (nf x).length ≤ 1048576 := by
  have hb := body_nf h
  have := body_len hb.right
  have := hb.size
  omega
theorem rd_map (x : List (Int × Int)) (i : Nat) (h : i < x.length) : rd_T32 (x.map toS) (i : Int) = toS x[i] := by
  rw [rd_get32 (by simpa using h)]
  simp
end Go.Proofs.Ytfhjbhbmbnnimaa.Pure
