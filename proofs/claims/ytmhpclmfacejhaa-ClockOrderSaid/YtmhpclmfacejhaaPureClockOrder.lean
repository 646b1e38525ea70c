/- The pure statement of the law ClockOrder: what the clock's functions compute answers as the law says. -/
import Derived.Test.YtmhpclmfacejhaaPCx6
import Derived.Test.YtmhpclmfacejhaaPureC
namespace Go.Proofs.Ytmhpclmfacejhaa.Pure
open Go.RowKit Go.Proofs.Ytmhpclmfacejhaa.PC Go.Proofs.YtmhpclmfacejhaaW.PrintWords Go.Proofs.YtmhpclmfacejhaaW.PrintLast Go.Proofs.YtmhpclmfacejhaaW.PrintMore

theorem ClockOrder : burgagelaw16_ClockOrder.Pure := by
  rintro u s m0 m1 hu hs ⟨hm0, hm1⟩
  obtain ⟨t, ht, t1, t2⟩ := time_eq u hu
  obtain ⟨q, hq, q1, q2⟩ := time_eq s hs
  obtain ⟨r1, r2⟩ := bounds_u8 hm0
  obtain ⟨r3, r4⟩ := bounds_u8 hm1
  refine ⟨40, ?_⟩
  unfold burgagelaw16_ClockOrder.f
  rw [sanity_eq (by omega), ht, hq]
  simp only [Option.bind_some]
  rw [wrap_id (n := m0) (by omega) (by omega), wrap_id (n := m1) (by omega) (by omega), wrap_id (n := q - m0) (by omega) (by omega), wrap_id (n := q + m0) (by omega) (by omega), wrap_id (n := t + m1) (by omega) (by omega)]
  simp only [burgagelaw16_ClockOrder.j0]
  rw [holds_eq (by omega), holds_eq (by omega), holds_eq (by omega), over_eq (by omega), over_eq (by omega), over_eq (by omega)]
  simp only [Option.bind_some, decide_eq_true_eq, Bool.not_eq_true', decide_eq_false_iff_not]
  repeat' split
  all_goals first | rfl | omega | contradiction

end Go.Proofs.Ytmhpclmfacejhaa.Pure
