/- The law SpanCovers of spans, over numbers and lists alone. -/
import Derived.Test.YtebggajdojdebaaPSx13
import Derived.Test.YtebggajdojdebaaPureS
namespace Go.Proofs.Ytebggajdojdebaa.Pure
open Go.RowKit Go.Proofs.Ytebggajdojdebaa.PS Go.Proofs.YtebggajdojdebaaW.PrintWords Go.Proofs.YtebggajdojdebaaW.PrintLast Go.Proofs.YtebggajdojdebaaW.PrintMore
theorem cov_false {l : List S24} {x : S24} (hl : l.length ≤ 1073741824) (h : ∃ n, x.f0 ≤ n ∧ n < x.f1 ∧ memS l n = false) : cov l x = false := by
  obtain ⟨n, h1, h2, h3⟩ := h
  rw [← Bool.not_eq_true]
  intro hc
  rw [(cov_iff l x hl).1 hc n h1 h2] at h3; cases h3
theorem cov_eq {l m : List S24} {x y : S24} (hl : l.length ≤ 1073741824) (hm : m.length ≤ 1073741824) (h : (∀ n, x.f0 ≤ n → n < x.f1 → memS l n = true) ↔ (∀ n, y.f0 ≤ n → n < y.f1 → memS m n = true)) : cov l x = cov m y := by
  rw [Bool.eq_iff_iff, cov_iff l x hl, cov_iff m y hm]; exact h
theorem covers_own {a : List S24} {lo hi mid : Int} (ha : a.length ≤ 12) (P : ∀ r, r = true → Ev (fun k => l11_SpanCovers.l0 k mid true a (a.length : Int) lo hi) r) : ∀ (t : Nat) (i : Int), 0 ≤ i → i ≤ a.length → (a.length : Int) - i = t → Ev (fun k => l11_SpanCovers.l0 k mid true a i lo hi) true := by
  intro t
  induction t with
  | zero =>
    intro i h0 h1 hd
    have : i = (a.length : Int) := by omega
    rw [this]; exact P true rfl
  | succ t ih =>
    intro i h0 h1 hd
    have hw : wrap64 (i + 1) = i + 1 := wrap_id (by omega) (by omega)
    have ih' := ih (i + 1) (by omega) (by omega) (by omega)
    refine Ev.round ?_
    simp only [l11_SpanCovers.l0, hw]
    refine Ev.pos (by omega) (Ev.pos h0 (Ev.bind' (covers_f a _ _ (by omega)) (Ev.pos ?_ ih')))
    exact (cov_iff a _ (by omega)).2 (fun n g1 g2 => (memS_iff a n).2 ⟨rd_T24 a i, rd_mem h0 (by omega), g1, g2⟩)
theorem SpanCovers : l11_SpanCovers.Pure := by
  intro l0 lo hi mid h0 h1 h2
  refine Ev.rounds ?_
  unfold l11_SpanCovers.f
  refine Ev.bind sane_ev (Ev.bind' (short_f l0) ?_)
  have A := (take_box l0).len
  generalize l0.take 12 = a at A ⊢
  refine covers_own A (fun r hr => ?_) a.length 0 (by omega) (by omega) (by omega)
  subst hr
  have hM : span_Minus.f [⟨lo, hi⟩] a = some (setF hasO [⟨lo, hi⟩] a) := minus_f _ _ (by simp) (by omega)
  refine Ev.round ?_
  simp only [l11_SpanCovers.l0]
  refine Ev.neg (by omega) (Ev.bind' (covers_f a _ _ (by omega)) (Ev.bind' hM (Ev.neg (by simp [cov]) (Ev.bind' (covers_f [] _ _ (by simp)) (Ev.round ?_)))))
  simp only [l11_SpanCovers.j1]
  have hn : cov [] ⟨lo, hi⟩ = decide (lo ≥ hi) := by
    rw [Bool.eq_iff_iff, cov_iff [] _ (by simp), decide_eq_true_eq]
    refine ⟨fun h => ?_, fun h n g1 g2 => ?_⟩
    · by_cases g : lo ≥ hi
      · exact g
      · have := h lo (by dsimp only; omega) (by dsimp only; omega); cases this
    · dsimp only at g1 g2; omega
  refine Ev.neg (by rw [hn]; simp) (Ev.ite (fun g => ?_) (fun g => ?_))
  · refine Ev.round ?_
    simp only [l11_SpanCovers.j2]
    exact Ev.pos trivial (Ev.now _)
  · refine Ev.round ?_
    simp only [l11_SpanCovers.j2]
    refine Ev.ite (fun _ => Ev.now _) (fun g' => ?_)
    rw [decide_eq_true_eq] at g'
    refine Ev.bind' (covers_f a _ _ (by omega)) (Ev.ite (fun k1 => ?_) (fun k1 => ?_))
    · refine Ev.bind' (covers_f a _ _ (by omega)) (Ev.pos ?_ (Ev.now _))
      rw [beq_iff_eq]
      rw [cov_iff a _ (by omega)] at k1
      refine cov_eq (by omega) (by omega) ⟨fun h n g1 g2 => h n (by dsimp only at g1 ⊢; omega) g2, fun h n g1 g2 => ?_⟩
      by_cases hn : n < mid
      · exact k1 n g1 hn
      · exact h n (by dsimp only; omega) g2
    · refine Ev.pos ?_ (Ev.now _)
      rw [beq_iff_eq, ← Bool.not_eq_true]
      intro hc
      refine k1 ((cov_iff a _ (by omega)).2 (fun n g1 g2 => (cov_iff a _ (by omega)).1 hc n g1 ?_))
      dsimp only at g2 ⊢; omega
end Go.Proofs.Ytebggajdojdebaa.Pure
