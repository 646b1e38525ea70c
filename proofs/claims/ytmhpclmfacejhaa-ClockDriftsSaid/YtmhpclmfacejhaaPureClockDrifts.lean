/- The pure statement of the law ClockDrifts: what the clock's functions compute answers as the law says. -/
import Derived.Test.YtmhpclmfacejhaaPCx8
import Derived.Test.YtmhpclmfacejhaaPureC
namespace Go.Proofs.Ytmhpclmfacejhaa.Pure
open Go.RowKit Go.Proofs.Ytmhpclmfacejhaa.PC Go.Proofs.YtmhpclmfacejhaaW.PrintWords Go.Proofs.YtmhpclmfacejhaaW.PrintLast Go.Proofs.YtmhpclmfacejhaaW.PrintMore

theorem clamp_in {n : Int} (h : -10 ≤ n ∧ n ≤ 10) : clamp n = n := by unfold clamp; rw [if_neg (by omega), if_neg (by omega)]
theorem clamp_bd (n : Int) : -10 ≤ clamp n ∧ clamp n ≤ 10 := by unfold clamp; split <;> (try split) <;> omega
theorem clamp_out {n : Int} (h : ¬ (-10 ≤ n ∧ n ≤ 10)) : clamp n = 10 ∨ clamp n = -10 := by unfold clamp; split <;> (try split) <;> omega
theorem clamp_two {c a b : Int} (h : ¬ ((decide (a > 0) != decide (b > 0)) = true)) (hc : -10 ≤ c ∧ c ≤ 10) : clamp (clamp (c + a) + b) = clamp (c + (a + b)) := by
  have h' : a > 0 ↔ b > 0 := by simpa using h
  unfold clamp
  by_cases ha : a > 0
  · have := h'.1 ha
    split <;> (try split) <;> (try split) <;> (try split) <;> omega
  · have : ¬ b > 0 := fun hb => ha (h'.2 hb)
    split <;> (try split) <;> (try split) <;> (try split) <;> omega

theorem ClockDrifts : burgagelaw16_ClockDrifts.Pure := by
  rintro n a b far hn ⟨ha, hb⟩ hf
  obtain ⟨c, hc, c1, c2⟩ := made_eq n hn
  obtain ⟨a1, a2⟩ := bounds_i8 ha
  obtain ⟨b1, b2⟩ := bounds_i8 hb
  obtain ⟨f1, f2⟩ := bounds_i64 hf
  refine ⟨50, ?_⟩
  unfold burgagelaw16_ClockDrifts.f
  rw [sanity_eq (by omega), hc]
  simp only [Option.bind_some]
  rw [wrap_id (n := a) (by omega) (by omega), wrap_id (n := b) (by omega) (by omega), drift_eq (by omega) ⟨c1, c2⟩ (by omega)]
  have hd := clamp_bd (c + a)
  simp only [Option.bind_some]
  rw [valid_eq]
  simp only [Option.bind_some]
  rw [if_pos (by simpa using hd), drift_eq (by omega) ⟨c1, c2⟩ (by omega)]
  simp only [Option.bind_some]
  rw [clamp_in (n := c + 0) (by omega), if_neg (by simp), drift_eq (by omega) ⟨c1, c2⟩ ⟨f1, f2⟩]
  simp only [Option.bind_some]
  rw [valid_eq]
  simp only [Option.bind_some]
  rw [decide_eq_true (clamp_bd _)]
  have hj2 : ∀ z : Bool, z = false → burgagelaw16_ClockDrifts.j2 48 true a b z c (clamp (c + a)) = some true := by
    rintro z rfl
    simp only [burgagelaw16_ClockDrifts.j2]
    rw [if_neg (by decide)]
    by_cases h : (decide (a > 0) != decide (b > 0)) = true
    · rw [if_pos h]
    · rw [if_neg h, drift_eq (by omega) hd (by omega), wrap_id (n := a + b) (by omega) (by omega), drift_eq (by omega) ⟨c1, c2⟩ (by omega)]
      simp only [Option.bind_some]
      rw [clamp_two h ⟨c1, c2⟩, if_pos (by simp)]
  simp only [burgagelaw16_ClockDrifts.j0]
  rw [if_neg (by decide), wrap_id (n := c + a) (by omega) (by omega)]
  by_cases hin : -10 ≤ c + a ∧ c + a ≤ 10
  · rw [if_pos (by omega), decide_eq_true hin.2]
    simp only [burgagelaw16_ClockDrifts.j1]
    rw [if_pos trivial, wrap_id (n := c + a) (by omega) (by omega), clamp_in hin, if_pos rfl, wrap_id (n := -a) (by omega) (by omega), drift_eq (by omega) hin (by omega)]
    simp only [Option.bind_some]
    rw [clamp_in (n := c + a + -a) (by omega), if_neg (by simp; omega)]
    have := hj2 false rfl
    rwa [clamp_in hin] at this
  · have hx : (if c + a ≥ -10 then burgagelaw16_ClockDrifts.j1 49 true a b (decide (c + a ≤ 10)) c (clamp (c + a)) else burgagelaw16_ClockDrifts.j1 49 true a b false c (clamp (c + a))) = burgagelaw16_ClockDrifts.j1 49 true a b false c (clamp (c + a)) := by
      split
      · rw [decide_eq_false (by omega)]
      · rfl
    rw [hx]
    simp only [burgagelaw16_ClockDrifts.j1]
    rw [if_neg (by decide)]
    rcases clamp_out hin with h | h
    · rw [if_pos h]; exact hj2 false rfl
    · rw [if_neg (by omega)]; exact hj2 _ (by rw [h]; rfl)

end Go.Proofs.Ytmhpclmfacejhaa.Pure
