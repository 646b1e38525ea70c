/- The law SpanLaws of spans, over numbers and lists alone. -/
import Derived.Test.YtebggajdojdebaaPSx12
import Derived.Test.YtebggajdojdebaaPureS
namespace Go.Proofs.Ytebggajdojdebaa.Pure
open Go.RowKit Go.Proofs.Ytebggajdojdebaa.PS Go.Proofs.YtebggajdojdebaaW.PrintWords Go.Proofs.YtebggajdojdebaaW.PrintLast Go.Proofs.YtebggajdojdebaaW.PrintMore
theorem SpanLaws : l11_SpanLaws.Pure := by
  intro l0 l1 l2 h0 h1 h2
  refine Ev.rounds ?_
  unfold l11_SpanLaws.f
  refine Ev.bind sane_ev (Ev.bind' (short_f l0) (Ev.bind' (short_f l1) (Ev.bind' (short_f l2) ?_)))
  have A := take_box l0
  have B := take_box l1
  have C := take_box l2
  generalize l0.take 12 = a at A ⊢
  generalize l1.take 12 = b at B ⊢
  generalize l2.take 12 = c at C ⊢
  obtain ⟨f1, c1, AB⟩ := A.union B (by decide) (by decide)
  obtain ⟨f2, c2, BC⟩ := B.meet C (by decide) (by decide)
  have q1 := AB.len
  have q2 := BC.len
  refine Ev.bind' f1 (Ev.bind' f2 (Ev.neg (by omega) (Ev.round ?_)))
  simp only [l11_SpanLaws.j0]
  refine Ev.neg (by rw [decide_eq_true_eq]; omega) ?_
  obtain ⟨f3, c3, BA⟩ := B.union A (by decide) (by decide)
  obtain ⟨f4, c4, CB⟩ := C.meet B (by decide) (by decide)
  refine Ev.bind' f3 (Ev.bind (BA.same AB c3 c1 (by decide) (fun n => Bool.or_comm _ _)) (Ev.pos rfl (Ev.bind' f4 (Ev.bind (CB.same BC c4 c2 (by decide) (fun n => Bool.and_comm _ _)) (Ev.round ?_)))))
  simp only [l11_SpanLaws.j1]
  obtain ⟨f5, c5, AB_C⟩ := AB.union C (by decide) (by decide)
  obtain ⟨f6, c6, BuC⟩ := B.union C (by decide) (by decide)
  obtain ⟨f7, c7, A_BC⟩ := A.union BuC (by decide) (by decide)
  obtain ⟨f8, c8, AmB⟩ := A.meet B (by decide) (by decide)
  obtain ⟨f9, c9, AmB_C⟩ := AmB.meet C (by decide) (by decide)
  obtain ⟨f10, c10, A_BmC⟩ := A.meet BC (by decide) (by decide)
  refine Ev.bind' f5 (Ev.bind' f6 (Ev.bind' f7 (Ev.bind (AB_C.same A_BC c5 c7 (by decide) (fun n => Bool.or_assoc _ _ _)) (Ev.pos rfl (Ev.bind' f8 (Ev.bind' f9 (Ev.bind' f10 (Ev.bind (AmB_C.same A_BmC c9 c10 (by decide) (fun n => Bool.and_assoc _ _ _)) (Ev.round ?_)))))))))
  simp only [l11_SpanLaws.j2]
  obtain ⟨f11, c11, CmAB⟩ := C.meet AB (by decide) (by decide)
  obtain ⟨f12, c12, CmA⟩ := C.meet A (by decide) (by decide)
  obtain ⟨f13, c13, U1⟩ := CmA.union CB (by decide) (by decide)
  obtain ⟨f14, c14, AdBC⟩ := A.minus BC (by decide) (by decide)
  obtain ⟨f15, c15, AdB⟩ := A.minus B (by decide) (by decide)
  obtain ⟨f16, c16, AdC⟩ := A.minus C (by decide) (by decide)
  obtain ⟨f17, c17, U2⟩ := AdB.union AdC (by decide) (by decide)
  refine Ev.bind' f11 (Ev.bind' f12 (Ev.bind' f4 (Ev.bind' f13 (Ev.bind (CmAB.same U1 c11 c13 (by decide) (fun n => ?_)) (Ev.pos rfl (Ev.bind' f14 (Ev.bind' f15 (Ev.bind' f16 (Ev.bind' f17 (Ev.bind (AdBC.same U2 c14 c17 (by decide) (fun n => ?_)) (Ev.round ?_)))))))))))
  · exact Bool.and_or_distrib_left _ _ _
  · rw [Bool.not_and, Bool.and_or_distrib_left]
  simp only [l11_SpanLaws.j3]
  obtain ⟨f18, c18, U3⟩ := AdB.union AmB (by decide) (by decide)
  obtain ⟨f19, c19, NA⟩ := A.norm (by decide)
  obtain ⟨f20, c20, Z⟩ := AdB.meet B (by decide) (by decide)
  refine Ev.bind' f15 (Ev.bind' f8 (Ev.bind' f18 (Ev.bind' f19 (Ev.bind (U3.same NA c18 c19 (by decide) (fun n => ?_)) (Ev.pos rfl (Ev.bind' f15 (Ev.bind' f20 (Ev.pos trivial (Ev.pos trivial (Ev.pos trivial (Ev.pos ?_ (Ev.now _))))))))))))
  · cases memS a n <;> cases memS b n <;> rfl
  · have e := (canon_nil_iff c20).2 (fun n => by rw [Z.has]; cases memS a n <;> cases memS b n <;> rfl)
    rw [e]; rfl
end Go.Proofs.Ytebggajdojdebaa.Pure
