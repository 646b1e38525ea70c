/- The law SpanSets of spans, over numbers and lists alone. -/
import Derived.Test.YtebggajdojdebaaPSx11
import Derived.Test.YtebggajdojdebaaPureS
namespace Go.Proofs.Ytebggajdojdebaa.Pure
open Go.RowKit Go.Proofs.Ytebggajdojdebaa.PS Go.Proofs.YtebggajdojdebaaW.PrintWords Go.Proofs.YtebggajdojdebaaW.PrintLast Go.Proofs.YtebggajdojdebaaW.PrintMore
theorem sets_any {a b u m d : List S24} (U : Box u 16 (fun n => memS a n || memS b n)) (M : Box m 16 (fun n => memS a n && memS b n)) (D : Box d 16 (fun n => memS a n && !memS b n)) (ha : a.length ≤ 8) (hb : b.length ≤ 8) : ∀ (t : Nat) (n : Int), -22 ≤ n → n ≤ 23 → 23 - n = t → Ev (fun k => l11_SpanSets.l0 k true a b u m d n) true := by
  have q1 := U.len
  have q2 := M.len
  have q3 := D.len
  intro t
  induction t with
  | zero =>
    intro n h1 h2 hd
    refine Ev.round ?_
    simp only [l11_SpanSets.l0]
    exact Ev.neg (by omega) (Ev.now _)
  | succ t ih =>
    intro n h1 h2 hd
    have hw : wrap64 (n + 1) = n + 1 := wrap_id (by omega) (by omega)
    have ih' := ih (n + 1) (by omega) (by omega) (by omega)
    refine Ev.round ?_
    simp only [l11_SpanSets.l0, hw]
    refine Ev.pos (by omega) (Ev.bind (rhas_ev a n (by omega)) (Ev.bind (rhas_ev b n (by omega)) (Ev.bind (rhas_ev u n (by omega)) ?_)))
    have e1 := rhas_ev m n (by omega)
    have e2 := rhas_ev d n (by omega)
    rw [M.has] at e1
    rw [D.has] at e2
    rw [U.has]
    refine Ev.ite (fun g => ?_) (fun g => ?_)
    · rw [g] at e1 e2 ⊢
      refine Ev.neg (by simp) (Ev.bind e1 (Ev.neg (by simp) (Ev.bind e2 (Ev.neg (by simp) ih'))))
    · rw [Bool.not_eq_true] at g
      rw [g] at e1 e2 ⊢
      refine Ev.neg (by simp) (Ev.bind e1 (Ev.neg (by simp) (Ev.bind e2 (Ev.neg (by simp) ih'))))
theorem SpanSets : l11_SpanSets.Pure := by
  intro l0 l1 h0 h1
  refine Ev.rounds ?_
  obtain ⟨a, ta, ea⟩ := made_ev l0 h0
  obtain ⟨b, tb, eb⟩ := made_ev l1 h1
  obtain ⟨f1, c1, U⟩ := (Box.self a ta.len).union (Box.self b tb.len) (by decide) (by decide)
  obtain ⟨f2, c2, M⟩ := (Box.self a ta.len).meet (Box.self b tb.len) (by decide) (by decide)
  obtain ⟨f3, c3, D⟩ := (Box.self a ta.len).minus (Box.self b tb.len) (by decide) (by decide)
  have q1 := U.len
  have q2 := M.len
  have q3 := D.len
  unfold l11_SpanSets.f
  refine Ev.bind sane_ev (Ev.bind ea (Ev.bind eb (Ev.bind' f1 (Ev.bind' f2 (Ev.bind' f3 (Ev.bind (rvalid_ev c1 (by omega)) (Ev.pos rfl (Ev.bind (rvalid_ev c2 (by omega)) (Ev.pos rfl (Ev.bind (rvalid_ev c3 (by omega)) (Ev.pos rfl (Ev.neg (by omega) (Ev.neg (by omega) (Ev.round ?_))))))))))))))
  simp only [l11_SpanSets.j0]
  refine Ev.neg (by rw [decide_eq_true_eq]; omega) ?_
  exact sets_any U M D ta.len tb.len 45 (-22) (by omega) (by omega) (by omega)
end Go.Proofs.Ytebggajdojdebaa.Pure
