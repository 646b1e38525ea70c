/- The pure statement of the law ClockBounds: what the clock's functions compute answers as the law says. -/
import Derived.Test.YtmhpclmfacejhaaPCx7
import Derived.Test.YtmhpclmfacejhaaPureC
namespace Go.Proofs.Ytmhpclmfacejhaa.Pure
open Go.RowKit Go.Proofs.Ytmhpclmfacejhaa.PC Go.Proofs.YtmhpclmfacejhaaW.PrintWords Go.Proofs.YtmhpclmfacejhaaW.PrintLast Go.Proofs.YtmhpclmfacejhaaW.PrintMore

theorem ClockBounds : burgagelaw16_ClockBounds.Pure := by
  rintro n0 n1 u ⟨hn0, hn1⟩ hu
  obtain ⟨t, ht, t1, t2⟩ := time_eq u hu
  obtain ⟨c0, hc0, c1, c2⟩ := made_eq n0 hn0
  obtain ⟨c3, hc3, c4, c5⟩ := made_eq n1 hn1
  obtain ⟨r1, r2⟩ := bounds_u8 hn1
  refine ⟨40, ?_⟩
  unfold burgagelaw16_ClockBounds.f
  rw [sanity_eq (by omega), ht, hc0, hc3]
  simp only [Option.bind_some]
  rw [read_eq (by omega) (by omega), read_eq (by omega) (by omega)]
  simp only [Option.bind_some]
  rw [between_eq (by omega)]
  simp only [Option.bind_some]
  rw [if_neg (by omega), if_neg (by omega), wrap_id (n := t + c0 - (t + c3)) (by omega) (by omega), if_neg (by omega), wrap_id (n := t + c3 - (t + c0)) (by omega) (by omega)]
  simp only [burgagelaw16_ClockBounds.j0]
  rw [decide_eq_false (by omega), wrap_id (n := n1) (by omega) (by omega), Int.tmod_eq_emod_of_nonneg r1]
  have h3 : 0 ≤ n1 % 21 ∧ n1 % 21 ≤ 20 := by omega
  generalize n1 % 21 = m at h3
  rw [wrap_id (n := t + c0 - 10 + m) (by omega) (by omega), wrap_id (n := t + c0 - (t + c0 - 10 + m)) (by omega) (by omega), read_eq (by omega) (by omega), valid_eq]
  simp only [Option.bind_some]
  rw [if_neg (by simp), if_pos (by omega), if_pos (by simp; omega), if_pos (by omega), wrap_id (by omega) (by omega), if_pos (by omega)]

end Go.Proofs.Ytmhpclmfacejhaa.Pure
