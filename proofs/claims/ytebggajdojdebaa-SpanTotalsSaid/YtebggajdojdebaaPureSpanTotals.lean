/- The law SpanTotals of spans, over numbers and lists alone. -/
import Derived.Test.YtebggajdojdebaaPSx14
import Derived.Test.YtebggajdojdebaaPureS
namespace Go.Proofs.Ytebggajdojdebaa.Pure
open Go.RowKit Go.Proofs.Ytebggajdojdebaa.PS Go.Proofs.YtebggajdojdebaaW.PrintWords Go.Proofs.YtebggajdojdebaaW.PrintLast Go.Proofs.YtebggajdojdebaaW.PrintMore
def bit : Bool → Int
  | true => 1
  | false => 0
/-- How many of the numbers from `lo` on. -/
def num (f : Int → Bool) (lo : Int) : Nat → Int
  | 0 => 0
  | t + 1 => num f lo t + bit (f (lo + (t : Int)))
theorem num_bounds (f : Int → Bool) (lo : Int) : ∀ t, 0 ≤ num f lo t ∧ num f lo t ≤ (t : Int)
  | 0 => ⟨Int.le_refl _, Int.le_refl _⟩
  | t + 1 => by have := num_bounds f lo t; unfold num; cases f (lo + (t : Int)) <;> simp only [bit] <;> omega
theorem num_congr {f g : Int → Bool} (h : ∀ n, f n = g n) (lo : Int) (t : Nat) : num f lo t = num g lo t := by rw [show f = g from funext h]
theorem num_or (f g : Int → Bool) (lo : Int) : ∀ t, num (fun n => f n || g n) lo t + num (fun n => f n && g n) lo t = num f lo t + num g lo t
  | 0 => rfl
  | t + 1 => by
    have := num_or f g lo t
    simp only [num]
    cases f (lo + (t : Int)) <;> cases g (lo + (t : Int)) <;> simp only [bit, Bool.or_true, Bool.or_false, Bool.and_true, Bool.and_false] <;> omega
theorem num_minus (f g : Int → Bool) (lo : Int) : ∀ t, num (fun n => f n && !g n) lo t + num (fun n => f n && g n) lo t = num f lo t
  | 0 => rfl
  | t + 1 => by
    have := num_minus f g lo t
    simp only [num]
    cases f (lo + (t : Int)) <;> cases g (lo + (t : Int)) <;> simp only [bit, Bool.and_true, Bool.and_false, Bool.not_true, Bool.not_false] <;> omega
theorem num_none (lo : Int) : ∀ t, num (fun _ => false) lo t = 0
  | 0 => rfl
  | t + 1 => by have := num_none lo t; unfold num; simp only [bit]; omega
theorem num_span (s : S24) (lo : Int) (h : lo ≤ s.f0) (hp : s.f0 < s.f1) : ∀ t : Nat, num (spanHas s) lo t = if lo + (t : Int) ≤ s.f0 then 0 else if lo + (t : Int) ≤ s.f1 then lo + (t : Int) - s.f0 else s.f1 - s.f0
  | 0 => by rw [if_pos (by simpa using h)]; rfl
  | t + 1 => by
    have := num_span s lo h hp t
    have hs := spanHas_iff s (lo + (t : Int))
    unfold num
    rw [this]
    by_cases g : spanHas s (lo + (t : Int)) = true
    · obtain ⟨g1, g2⟩ := hs.1 g
      rw [g]
      simp only [bit]
      repeat' split
      all_goals omega
    · rw [show bit (spanHas s (lo + (t : Int))) = 0 by rw [Bool.not_eq_true] at g; rw [g]; rfl]
      rw [hs] at g
      repeat' split
      all_goals omega
/-- How long the spans are together. -/
def tot : List S24 → Int
  | [] => 0
  | s :: R => (s.f1 - s.f0) + tot R
theorem canon_tail {s : S24} {R : List S24} (h : CanonS (s :: R)) : CanonS R := ⟨fun t ht => h.pos t (List.mem_cons_of_mem _ ht), (List.pairwise_cons.1 h.apart).2⟩
theorem num_tot : ∀ (R : List S24), CanonS R → (∀ s ∈ R, -20 ≤ s.f0 ∧ s.f1 ≤ 20) → tot R = num (memS R) (-22) 45
  | [], _, _ => (num_none _ _).symm
  | s :: R, h, hb => by
    have ih := num_tot R (canon_tail h) (fun t ht => hb t (List.mem_cons_of_mem _ ht))
    have hp := h.pos s List.mem_cons_self
    have b := hb s List.mem_cons_self
    have e : num (memS (s :: R)) (-22) 45 = num (fun n => spanHas s n || memS R n) (-22) 45 := rfl
    have h1 := num_or (spanHas s) (memS R) (-22) 45
    have h2 : num (fun n => spanHas s n && memS R n) (-22) 45 = 0 := by
      rw [← num_none (-22) 45]
      refine num_congr (fun n => ?_) _ _
      cases hs : spanHas s n with
      | false => rfl
      | true =>
        rw [Bool.true_and]
        refine (memS_false _ _).2 (fun t ht k => ?_)
        have k1 := (List.pairwise_cons.1 h.apart).1 t ht
        have k2 := (spanHas_iff s n).1 hs
        omega
    have h3 := num_span s (-22) (by omega) hp 45
    rw [if_neg (by omega), if_neg (by omega)] at h3
    rw [e]
    unfold tot
    omega
theorem tot_le : ∀ (R : List S24), CanonS R → (∀ s ∈ R, -20 ≤ s.f0 ∧ s.f1 ≤ 20) → 0 ≤ tot R ∧ tot R ≤ 40 * R.length
  | [], _, _ => ⟨Int.le_refl _, Int.le_refl _⟩
  | s :: R, h, hb => by
    have ih := tot_le R (canon_tail h) (fun t ht => hb t (List.mem_cons_of_mem _ ht))
    have hp := h.pos s List.mem_cons_self
    have b := hb s List.mem_cons_self
    unfold tot
    rw [List.length_cons]
    omega
theorem canon_drop {R : List S24} (h : CanonS R) (i : Nat) : CanonS (R.drop i) := ⟨fun t ht => h.pos t (List.mem_of_mem_drop ht), h.apart.sublist (List.drop_sublist _ _)⟩
theorem total_any {R : List S24} (h : CanonS R) (hb : ∀ s ∈ R, -20 ≤ s.f0 ∧ s.f1 ≤ 20) (hl : R.length ≤ 100) : ∀ (t : Nat) (i x : Int), 0 ≤ i → i ≤ R.length → (R.length : Int) - i = t → 0 ≤ x → x + tot (R.drop i.toNat) ≤ 4000 → Ev (fun k => span_Total.l0 k x R (R.length : Int) i) (x + tot (R.drop i.toNat)) := by
  intro t
  induction t with
  | zero =>
    intro i x h0 h1 hd hx hx'
    refine Ev.round ?_
    simp only [span_Total.l0]
    rw [List.drop_of_length_le (by omega), show x + tot [] = x from Int.add_zero x]
    exact Ev.neg (by omega) (Ev.now _)
  | succ t ih =>
    intro i x h0 h1 hd hx hx'
    have hi := rd_mem h0 (show i < (R.length : Int) by omega)
    have hp := h.pos _ hi
    have b := hb _ hi
    have hdr := drop_rd R i h0 (by omega)
    have ht := (tot_le (R.drop (i + 1).toNat) (canon_drop h _) (fun t ht => hb t (List.mem_of_mem_drop ht))).1
    rw [hdr] at hx' ⊢
    unfold tot at hx' ⊢
    have hw : wrap64 (i + 1) = i + 1 := wrap_id (by omega) (by omega)
    have hw2 : wrap64 ((rd_T24 R i).f1 - (rd_T24 R i).f0) = (rd_T24 R i).f1 - (rd_T24 R i).f0 := wrap_id (by omega) (by omega)
    have hw3 : wrap64 (x + ((rd_T24 R i).f1 - (rd_T24 R i).f0)) = x + ((rd_T24 R i).f1 - (rd_T24 R i).f0) := wrap_id (by omega) (by omega)
    have ih' := ih (i + 1) (x + ((rd_T24 R i).f1 - (rd_T24 R i).f0)) (by omega) (by omega) (by omega) (by omega) (by omega)
    rw [Int.add_assoc] at ih'
    refine Ev.round ?_
    simp only [span_Total.l0, hw, hw2, hw3]
    exact Ev.pos (by omega) (Ev.pos h0 (Ev.pos (by omega) ih'))
/-- A set's numbers are small. -/
def Near (f : Int → Bool) : Prop := ∀ n, f n = true → -20 ≤ n ∧ n < 20
theorem near_ends {R : List S24} {N : Nat} {f : Int → Bool} (c : CanonS R) (B : Box R N f) (hf : Near f) : ∀ s ∈ R, -20 ≤ s.f0 ∧ s.f1 ≤ 20 := by
  intro s hs
  have hp := c.pos s hs
  have h1 := hf s.f0 (by rw [← B.has]; exact (memS_iff _ _).2 ⟨s, hs, Int.le_refl _, hp⟩)
  have h2 := hf (s.f1 - 1) (by rw [← B.has]; exact (memS_iff _ _).2 ⟨s, hs, by omega, by omega⟩)
  omega
theorem total_ev {X : List S24} {N : Nat} {f : Int → Bool} (B : Box X N f) (hN : N ≤ 16) (hf : Near f) : Ev (fun k => span_Total.f k X) (num f (-22) 45) := by
  unfold span_Total.f
  obtain ⟨e, c, R⟩ := B.norm (by omega)
  have hb := near_ends c R hf
  have hl := R.len
  have q := tot_le _ c hb
  refine Ev.bind' e ?_
  have := total_any c hb (by omega) _ 0 0 (by omega) (by omega) rfl (by omega) (by rw [Int.toNat_zero, List.drop_zero]; omega)
  rw [Int.toNat_zero, List.drop_zero, Int.zero_add, num_tot _ c hb, num_congr R.has] at this
  exact this
theorem small_any {R : List S24} (hb : ∀ s ∈ R, -20 ≤ s.f0 ∧ s.f1 ≤ 20) (c : CanonS R) (hl : R.length ≤ 16) : ∀ (t : Nat) (i : Int), 0 ≤ i → i ≤ R.length → (R.length : Int) - i = t → Ev (fun k => l11_small.l0 k R i) true := by
  intro t
  induction t with
  | zero =>
    intro i h0 h1 hd
    refine Ev.round ?_
    simp only [l11_small.l0]
    rw [decide_eq_true (by omega)]
    exact Ev.neg (by omega) (Ev.now _)
  | succ t ih =>
    intro i h0 h1 hd
    have hw : wrap64 (i + 1) = i + 1 := wrap_id (by omega) (by omega)
    have ih' := ih (i + 1) (by omega) (by omega) (by omega)
    have hi := rd_mem h0 (show i < (R.length : Int) by omega)
    have hp := c.pos _ hi
    have b := hb _ hi
    refine Ev.round ?_
    simp only [l11_small.l0, hw]
    exact Ev.pos (by omega) (Ev.pos h0 (Ev.neg (by omega) (Ev.neg (by omega) (Ev.neg (by omega) (Ev.neg (by omega) ih')))))
theorem small_ev {R : List S24} {N : Nat} {f : Int → Bool} (c : CanonS R) (B : Box R N f) (hf : Near f) (hN : N ≤ 16) : Ev (fun k => l11_small.f k R) true := by
  have := B.len
  exact small_any (near_ends c B hf) c (by omega) R.length 0 (by omega) (by omega) (by omega)
theorem tiny_near {a : List S24} (h : Tiny a) : Near (memS a) := by
  intro n hn
  obtain ⟨s, hs, g1, g2⟩ := (memS_iff _ _).1 hn
  have := h.b0 s hs
  have := h.b1 s hs
  omega
theorem totals_any {a b : List S24} (ta : Tiny a) (tb : Tiny b) : ∀ (d t : Nat), t + d = 45 → Ev (fun k => l11_SpanTotals.l0 k true a b (num (memS a) (-22) t) (-22 + (t : Int))) true := by
  have la := ta.len
  have lb := tb.len
  intro d
  induction d with
  | zero =>
    intro t hd
    have : t = 45 := by omega
    subst this
    obtain ⟨f1, c1, U⟩ := (Box.self a la).union (Box.self b lb) (by decide) (by decide)
    obtain ⟨f2, c2, M⟩ := (Box.self a la).meet (Box.self b lb) (by decide) (by decide)
    obtain ⟨f3, c3, D⟩ := (Box.self a la).minus (Box.self b lb) (by decide) (by decide)
    have na := tiny_near ta
    have nb := tiny_near tb
    have nU : Near (fun n => memS a n || memS b n) := fun n h => (Bool.or_eq_true_iff.1 h).elim (na n) (nb n)
    have nM : Near (fun n => memS a n && memS b n) := fun n h => na n ((Bool.and_eq_true_iff.1 h).1)
    have nD : Near (fun n => memS a n && !memS b n) := fun n h => na n ((Bool.and_eq_true_iff.1 h).1)
    refine Ev.round ?_
    simp only [l11_SpanTotals.l0]
    refine Ev.neg (by omega) (Ev.bind' f1 (Ev.bind' f2 (Ev.bind' f3 (Ev.bind (small_ev c1 U nU (by decide)) (Ev.pos rfl (Ev.bind (small_ev c2 M nM (by decide)) (Ev.pos rfl (Ev.bind (small_ev c3 D nD (by decide)) (Ev.round ?_)))))))))
    simp only [l11_SpanTotals.j1]
    have q1 := num_or (memS a) (memS b) (-22) 45
    have q2 := num_minus (memS a) (memS b) (-22) 45
    have b1 := num_bounds (memS a) (-22) 45
    have b2 := num_bounds (memS b) (-22) 45
    refine Ev.neg (by simp) (Ev.bind (total_ev (Box.self a la) (by decide) na) (Ev.pos rfl (Ev.bind (total_ev U (by decide) nU) (Ev.bind (total_ev M (by decide) nM) (Ev.bind (total_ev (Box.self b lb) (by decide) nb) (Ev.pos ?_ (Ev.bind (total_ev D (by decide) nD) (Ev.bind (total_ev M (by decide) nM) (Ev.pos ?_ (Ev.now _))))))))))
    · rw [q1]
    · rw [q2]; exact wrap_id (by omega) (by omega)
  | succ d ih =>
    intro t hd
    have ih' := ih (t + 1) (by omega)
    have q := num_bounds (memS a) (-22) t
    have hw : wrap64 (-22 + (t : Int) + 1) = -22 + ((t + 1 : Nat) : Int) := by rw [wrap_id (by omega) (by omega)]; omega
    have hw2 : wrap64 (num (memS a) (-22) t + 1) = num (memS a) (-22) t + 1 := wrap_id (by omega) (by omega)
    refine Ev.round ?_
    simp only [l11_SpanTotals.l0, hw, hw2]
    unfold num at ih'
    refine Ev.pos (by omega) (Ev.bind (rhas_ev a _ (by omega)) (Ev.ite (fun g => ?_) (fun g => ?_)))
    · rw [g] at ih'; exact ih'
    · rw [Bool.not_eq_true] at g; rw [g, show bit false = 0 from rfl, Int.add_zero] at ih'; exact ih'
theorem SpanTotals : l11_SpanTotals.Pure := by
  intro l0 l1 h0 h1
  refine Ev.rounds ?_
  obtain ⟨a, ta, ea⟩ := made_ev l0 h0
  obtain ⟨b, tb, eb⟩ := made_ev l1 h1
  unfold l11_SpanTotals.f
  exact Ev.bind sane_ev (Ev.bind ea (Ev.bind eb (totals_any ta tb 45 0 (by omega))))
end Go.Proofs.Ytebggajdojdebaa.Pure
