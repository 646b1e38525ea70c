/- The pure statement of the law ClockWaits: what the clock's functions compute answers as the law says. -/
import Derived.Test.YtmhpclmfacejhaaPCx6
import Derived.Test.YtmhpclmfacejhaaPureC
namespace Go.Proofs.Ytmhpclmfacejhaa.Pure
open Go.RowKit Go.Proofs.Ytmhpclmfacejhaa.PC Go.Proofs.YtmhpclmfacejhaaW.PrintWords Go.Proofs.YtmhpclmfacejhaaW.PrintLast Go.Proofs.YtmhpclmfacejhaaW.PrintMore

theorem ClockWaits : burgagelaw16_ClockWaits.Pure := by
  rintro u nr hu hnr
  obtain ⟨t, ht, t1, t2⟩ := time_eq u hu
  obtain ⟨r1, r2⟩ := bounds_i16 hnr
  refine ⟨40, ?_⟩
  unfold burgagelaw16_ClockWaits.f
  rw [sanity_eq (by omega), ht]
  simp only [Option.bind_some]
  rw [wrap_id (n := nr) (by omega) (by omega), wrap_id (n := t + nr) (by omega) (by omega), wait_eq (by omega) (by omega)]
  simp only [Option.bind_some]
  generalize hw : (if 0 < t + 20 - (t + nr) then t + 20 - (t + nr) else 0) = n
  have h0 : 0 ≤ n ∧ n ≤ 40000 ∧ (n = 0 ∧ nr ≥ 20 ∨ n = 20 - nr ∧ nr < 20) := by split at hw <;> omega
  rw [if_neg (by omega), if_neg (by omega), wrap_id (n := t + nr + n) (by omega) (by omega), over_eq (by omega)]
  simp only [Option.bind_some, burgagelaw16_ClockWaits.j0]
  rw [wrap_id (n := t + nr + n) (by omega) (by omega), wrap_id (n := t + nr + n - 1) (by omega) (by omega), over_eq (by omega), over_eq (by omega)]
  simp only [Option.bind_some, decide_eq_true_eq, Bool.not_eq_true', decide_eq_false_iff_not]
  repeat' split
  all_goals first | rfl | omega

end Go.Proofs.Ytmhpclmfacejhaa.Pure
