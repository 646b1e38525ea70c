/- The pure statement of the law ClockMatchesReference: what the clock's functions compute answers as the reference's do. -/
import Derived.Test.YtmhpclmfacejhaaPCx4
import Derived.Test.YtmhpclmfacejhaaPureC
namespace Go.Proofs.Ytmhpclmfacejhaa.Pure
open Go.RowKit Go.Proofs.Ytmhpclmfacejhaa.PC Go.Proofs.YtmhpclmfacejhaaW.PrintWords Go.Proofs.YtmhpclmfacejhaaW.PrintLast Go.Proofs.YtmhpclmfacejhaaW.PrintMore

theorem ref_valid (c : Int) : burgageref16_Valid.f c = some (decide (-10 ≤ c ∧ c ≤ 10)) := by
  unfold burgageref16_Valid.f
  by_cases h : c ≥ -10
  · rw [if_pos h]; congr 1; rw [Bool.eq_iff_iff]; simp; omega
  · rw [if_neg h]; congr 1; rw [Bool.eq_iff_iff]; simp; omega

theorem ref_drift {c b : Int} (hc : -10 ≤ c ∧ c ≤ 10) (hb : -9223372036854775808 ≤ b ∧ b ≤ 9223372036854775807) : burgageref16_Drift.f c b = some (clamp (c + b)) := by
  unfold burgageref16_Drift.f
  by_cases h1 : b > 20
  · rw [if_pos h1]; congr 1; unfold clamp; rw [if_neg (by omega), if_pos (by omega)]
  · rw [if_neg h1]
    by_cases h2 : b < -20
    · rw [if_pos h2]; congr 1; unfold clamp; rw [if_pos (by omega)]
    · rw [if_neg h2, wrap_id (by omega) (by omega)]
      congr 1
      unfold clamp mx mn
      split <;> split <;> (try split) <;> omega

theorem ClockMatchesReference : burgagelaw16_ClockMatchesReference.Pure := by
  rintro n u s b hn ⟨hu, hs⟩ hb
  obtain ⟨t, ht, t1, t2⟩ := time_eq u hu
  obtain ⟨q, hq, q1, q2⟩ := time_eq s hs
  obtain ⟨c, hc, c1, c2⟩ := made_eq n hn
  obtain ⟨b1, b2⟩ := bounds_i64 hb
  refine ⟨50, ?_⟩
  unfold burgagelaw16_ClockMatchesReference.f
  rw [sanity_eq (by omega), hc, ht, hq]
  simp only [Option.bind_some]
  rw [read_eq (by omega) (by omega), between_eq (by omega), holds_eq (by omega), over_eq (by omega), wait_eq (by omega) (by omega), drift_eq (by omega) ⟨c1, c2⟩ ⟨b1, b2⟩, valid_eq, valid_eq, ref_drift ⟨c1, c2⟩ ⟨b1, b2⟩, ref_valid]
  unfold burgageref16_Read.f burgageref16_Holds.f burgageref16_Over.f burgageref16_Wait.f
  simp only [Option.bind_some]
  rw [wrap_id (n := t + c) (by omega) (by omega), wrap_id (n := t - 10) (by omega) (by omega), wrap_id (n := t + 10) (by omega) (by omega), wrap_id (n := q + 20) (by omega) (by omega), wrap_id (n := q - 20) (by omega) (by omega), wrap_id (n := t + 20) (by omega) (by omega), wrap_id (n := t + 20 - q) (by omega) (by omega)]
  rw [if_pos rfl, if_pos (by simp), if_pos (by simp), if_pos (by simp), if_pos (by unfold mx; rfl), if_pos (by simp), if_pos (by simp; omega), if_pos (by simp)]
end Go.Proofs.Ytmhpclmfacejhaa.Pure
