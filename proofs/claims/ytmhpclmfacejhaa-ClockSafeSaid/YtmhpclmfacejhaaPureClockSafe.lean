/- The pure statement of the law ClockSafe: what the clock's functions compute answers as the law says. -/
import Derived.Test.YtmhpclmfacejhaaPCx5
import Derived.Test.YtmhpclmfacejhaaPureC
namespace Go.Proofs.Ytmhpclmfacejhaa.Pure
open Go.RowKit Go.Proofs.Ytmhpclmfacejhaa.PC Go.Proofs.YtmhpclmfacejhaaW.PrintWords Go.Proofs.YtmhpclmfacejhaaW.PrintLast Go.Proofs.YtmhpclmfacejhaaW.PrintMore

theorem ClockSafe : burgagelaw16_ClockSafe.Pure := by
  rintro n0 n1 u nr ⟨hn0, hn1⟩ hu hnr
  obtain ⟨t, ht, t1, t2⟩ := time_eq u hu
  obtain ⟨c0, hc0, c1, c2⟩ := made_eq n0 hn0
  obtain ⟨c3, hc3, c4, c5⟩ := made_eq n1 hn1
  obtain ⟨r1, r2⟩ := bounds_i8 hnr
  refine ⟨40, ?_⟩
  unfold burgagelaw16_ClockSafe.f
  rw [sanity_eq (by omega), ht, hc0, hc3]
  simp only [Option.bind_some]
  rw [wrap_id (n := nr) (by omega) (by omega), wrap_id (n := t + nr) (by omega) (by omega)]
  rw [read_eq (by omega) (by omega), read_eq (by omega) (by omega)]
  simp only [Option.bind_some]
  rw [holds_eq (by omega), over_eq (by omega), holds_eq (by omega), over_eq (by omega)]
  simp only [Option.bind_some, decide_eq_true_eq]
  repeat' split
  all_goals first | rfl | omega

end Go.Proofs.Ytmhpclmfacejhaa.Pure
