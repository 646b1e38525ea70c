/- The law SpanNumbers of spans, over numbers and lists alone. -/
import Derived.Test.YtebggajdojdebaaPSx10
import Derived.Test.YtebggajdojdebaaPureS
namespace Go.Proofs.Ytebggajdojdebaa.Pure
open Go.RowKit Go.Proofs.Ytebggajdojdebaa.PS Go.Proofs.YtebggajdojdebaaW.PrintWords Go.Proofs.YtebggajdojdebaaW.PrintLast Go.Proofs.YtebggajdojdebaaW.PrintMore
theorem any_step (a : List S24) (n i : Int) (h0 : 0 ≤ i) (h1 : i < (a.length : Int)) : memS (a.take (i + 1).toNat) n = (memS (a.take i.toNat) n || spanHas (rd_T24 a i) n) := by
  have e : (i + 1).toNat = i.toNat + 1 := by omega
  unfold rd_T24
  rw [e, List.getD_eq_getElem?_getD, List.getElem?_eq_getElem (by omega), List.take_succ_eq_append_getElem (by omega)]
  unfold memS
  rw [List.any_append]
  simp only [List.any_cons, List.any_nil, Bool.or_false, Option.getD_some]
theorem numbers_last {a R : List S24} {n : Int} (ha : a.length ≤ 12) (hR : R.length ≤ 12) (c : CanonS R) (hm : ∀ n, memS R n = memS a n) : ∀ (t : Nat) (i : Int), 0 ≤ i → i ≤ a.length → (a.length : Int) - i = t → Ev (fun k => l11_SpanNumbers.l1 k n true a R (memS (a.take i.toNat) n) i) true := by
  intro t
  induction t with
  | zero =>
    intro i h0 h1 hd
    refine Ev.round ?_
    simp only [l11_SpanNumbers.l1]
    rw [List.take_of_length_le (by omega)]
    obtain ⟨f, c', N⟩ := (Box.self R hR).norm (by decide)
    refine Ev.neg (by omega) (Ev.bind' (has_f a n) (Ev.pos (by rw [beq_iff_eq]) (Ev.bind' (has_f R n) (Ev.pos (by rw [beq_iff_eq, hm]) (Ev.bind' f (Ev.bind (N.same (Box.self R hR) c' c (by decide) (fun _ => rfl)) (Ev.pos rfl (Ev.now _))))))))
  | succ t ih =>
    intro i h0 h1 hd
    have hw : wrap64 (i + 1) = i + 1 := wrap_id (by omega) (by omega)
    have ih' := ih (i + 1) (by omega) (by omega) (by omega)
    rw [any_step a n i h0 (by omega)] at ih'
    have hs := spanHas_iff (rd_T24 a i) n
    refine Ev.round ?_
    simp only [l11_SpanNumbers.l1, hw]
    refine Ev.pos (by omega) (Ev.ite (fun g => ?_) (fun g => Ev.pos h0 (Ev.ite (fun g1 => ?_) (fun g1 => ?_))))
    · rw [g, Bool.true_or] at ih'; exact ih'
    · rw [Bool.not_eq_true] at g
      rw [g, Bool.false_or] at ih'
      rw [show decide (n < (rd_T24 a i).f1) = spanHas (rd_T24 a i) n from ?_]
      · exact ih'
      · rw [Bool.eq_iff_iff, hs, decide_eq_true_eq]; exact ⟨fun h => ⟨g1, h⟩, fun h => h.2⟩
    · rw [Bool.not_eq_true] at g
      rw [g, Bool.false_or] at ih'
      rw [show spanHas (rd_T24 a i) n = false by rw [← Bool.not_eq_true, hs]; omega] at ih'
      exact ih'
theorem numbers_each {a R : List S24} {n : Int} (hw0 : ∀ s ∈ a, (-9223372036854775808 ≤ s.f0 ∧ s.f0 ≤ 9223372036854775807) ∧ -9223372036854775808 ≤ s.f1 ∧ s.f1 ≤ 9223372036854775807) (ha : a.length ≤ 12) (hR : R.length ≤ 12) (c : CanonS R) (hm : ∀ n, memS R n = memS a n) : ∀ (t : Nat) (i : Int), 0 ≤ i → i ≤ a.length → (a.length : Int) - i = t → Ev (fun k => l11_SpanNumbers.l0 k n true a R i) true := by
  intro t
  induction t with
  | zero =>
    intro i h0 h1 hd
    refine Ev.round ?_
    simp only [l11_SpanNumbers.l0]
    have := numbers_last (n := n) ha hR c hm a.length 0 (by omega) (by omega) (by omega)
    exact Ev.neg (by omega) this
  | succ t ih =>
    intro i h0 h1 hd
    have hw : wrap64 (i + 1) = i + 1 := wrap_id (by omega) (by omega)
    have ih' := ih (i + 1) (by omega) (by omega) (by omega)
    have hi := rd_mem h0 (show i < (a.length : Int) by omega)
    obtain ⟨w0, w1⟩ := hw0 _ hi
    refine Ev.round ?_
    simp only [l11_SpanNumbers.l0, hw]
    refine Ev.pos (by omega) (Ev.pos h0 (Ev.ite (fun g => ?_) (fun _ => ih')))
    have hin : ∀ m, (rd_T24 a i).f0 ≤ m → m < (rd_T24 a i).f1 → memS R m = true := fun m g1 g2 => by rw [hm]; exact (memS_iff a m).2 ⟨_, hi, g1, g2⟩
    have hd' : wrap64 ((rd_T24 a i).f1 - 1) = (rd_T24 a i).f1 - 1 := wrap_id (by omega) (by omega)
    rw [hd']
    refine Ev.bind' (has_f R _) (Ev.pos (hin _ (by omega) g) (Ev.bind' (has_f R _) (Ev.pos (hin _ (by omega) (by omega)) (Ev.bind' (covers_f R _ _ (by omega)) (Ev.pos ?_ ih')))))
    exact (cov_iff R _ (by omega)).2 hin
theorem SpanNumbers : l11_SpanNumbers.Pure := by
  intro l0 n h0 h1
  refine Ev.rounds ?_
  unfold l11_SpanNumbers.f
  refine Ev.bind sane_ev (Ev.bind' (short_f l0) ?_)
  have A := take_box l0
  have hw0 : ∀ s ∈ l0.take 12, (-9223372036854775808 ≤ s.f0 ∧ s.f0 ≤ 9223372036854775807) ∧ -9223372036854775808 ≤ s.f1 ∧ s.f1 ≤ 9223372036854775807 := fun s hs => ⟨bounds_i64 (h0.2.2 s (mem_take hs)).1, bounds_i64 (h0.2.2 s (mem_take hs)).2⟩
  generalize l0.take 12 = a at A hw0 ⊢
  have hl := A.len
  obtain ⟨f, c, N⟩ := A.norm (by decide)
  have hn := norm_len a (by omega)
  refine Ev.bind' f (Ev.neg (by omega) (Ev.bind (rvalid_ev c (by omega)) (Ev.pos rfl (Ev.bind (valid_ev c (by omega)) (Ev.round ?_)))))
  simp only [l11_SpanNumbers.j0]
  exact Ev.neg (by simp) (numbers_each hw0 hl N.len c N.has a.length 0 (by omega) (by omega) (by omega))
end Go.Proofs.Ytebggajdojdebaa.Pure
