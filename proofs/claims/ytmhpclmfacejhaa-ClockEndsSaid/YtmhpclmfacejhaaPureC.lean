/- What the clock's functions compute, over numbers alone: the shared part of the laws of clocks. -/
import Derived.Test.YtmhpclmfacejhaaPCx3
import Derived.OpenShut
namespace Go.Proofs.Ytmhpclmfacejhaa.Pure
open Go.RowKit Go.Proofs.Ytmhpclmfacejhaa.PC Go.Proofs.YtmhpclmfacejhaaW.PrintWords Go.Proofs.YtmhpclmfacejhaaW.PrintLast Go.Proofs.YtmhpclmfacejhaaW.PrintMore

theorem wrap_id {n : Int} (h : -9223372036854775808 ≤ n) (h' : n ≤ 9223372036854775807) : wrap64 n = n := by
  unfold wrap64; omega

theorem time_eq (a : Int) (h : (Lit.int .i64 a).wf = true) : ∃ t, burgageref16_Time.f a = some t ∧ -1152921504606846976 ≤ t ∧ t ≤ 1152921504606846976 := by
  obtain ⟨h1, h2⟩ := bounds_i64 h
  have h3 : -1152921504606846976 ≤ Int.tdiv a 8 ∧ Int.tdiv a 8 ≤ 1152921504606846976 := by
    rcases Int.lt_or_le a 0 with hn | hn
    · obtain ⟨m, rfl⟩ : ∃ m : Int, a = -m := ⟨-a, by omega⟩
      rw [Int.neg_tdiv, Int.tdiv_eq_ediv_of_nonneg (by omega)]; omega
    · rw [Int.tdiv_eq_ediv_of_nonneg hn]; omega
  refine ⟨_, rfl, ?_⟩
  rw [wrap_id (by omega) (by omega)]; exact h3

theorem made_eq (n : Int) (h : (Lit.int .u8 n).wf = true) : ∃ c, burgageref16_Made.f n = some c ∧ -10 ≤ c ∧ c ≤ 10 := by
  obtain ⟨h1, h2⟩ := bounds_u8 h
  refine ⟨_, rfl, ?_⟩
  rw [wrap_id (n := n) (by omega) (by omega), Int.tmod_eq_emod_of_nonneg h1, wrap_id (by omega) (by omega)]
  omega

theorem read_eq {c t : Int} (hc : -100 ≤ c ∧ c ≤ 100) (ht : -2305843009213693952 ≤ t ∧ t ≤ 2305843009213693952) : clock_Read.f c t = some (t + c) := by
  unfold clock_Read.f
  rw [wrap_id (by omega) (by omega)]

theorem between_eq {t : Int} (ht : -2305843009213693952 ≤ t ∧ t ≤ 2305843009213693952) : burgagelaw16_between.f t = some (t - 10, t + 10) := by
  unfold burgagelaw16_between.f clock_Between.f clock_around_int.f
  simp only [Option.bind_some]
  rw [wrap_id (by omega) (by omega), wrap_id (by omega) (by omega)]

theorem holds_eq {u s : Int} (hs : -2305843009213693952 ≤ s ∧ s ≤ 2305843009213693952) : clock_Holds.f u s = some (decide (s + 20 < u)) := by
  unfold clock_Holds.f clock_around_int.f
  simp only [Option.bind_some]
  rw [wrap_id (n := s + 20) (by omega) (by omega)]

theorem over_eq {u s : Int} (hs : -2305843009213693952 ≤ s ∧ s ≤ 2305843009213693952) : clock_Over.f u s = some (decide (u ≤ s - 20)) := by
  unfold clock_Over.f clock_around_int.f
  simp only [Option.bind_some]
  rw [wrap_id (n := s - 20) (by omega) (by omega)]

theorem wait_eq {u s : Int} (hu : -2305843009213693952 ≤ u ∧ u ≤ 2305843009213693952) (hs : -2305843009213693952 ≤ s ∧ s ≤ 2305843009213693952) : clock_Wait.f u s = some (if 0 < u + 20 - s then u + 20 - s else 0) := by
  unfold clock_Wait.f clock_around_int.f
  simp only [Option.bind_some]
  rw [wrap_id (n := u + 20) (by omega) (by omega), wrap_id (by omega) (by omega)]
  rfl

theorem valid_eq (c : Int) : clock_Valid.f c = some (decide (-10 ≤ c ∧ c ≤ 10)) := by
  unfold clock_Valid.f mx mn
  congr 1
  by_cases h1 : c < -10
  · rw [if_pos h1, if_neg (by omega), decide_eq_false (by omega)]; simp; omega
  · rw [if_neg h1]
    by_cases h2 : 10 < c
    · rw [if_pos h2, decide_eq_false (by omega)]; simp; omega
    · rw [if_neg h2, decide_eq_true (by omega)]; simp

/-- Ahead plus by, but within the bounds. -/
def clamp (n : Int) : Int := if n < -10 then -10 else if 10 < n then 10 else n

theorem drift_loop (c0 by0 step : Int) (hc0 : -10 ≤ c0 ∧ c0 ≤ 10) (hb0 : -9223372036854775808 ≤ by0 ∧ by0 ≤ 9223372036854775807) (hs : (step = 1 ∧ 0 ≤ by0) ∨ (step = -1 ∧ by0 < 0)) :
    ∀ (d : Nat) (k : Nat) (i : Int), 0 ≤ i → i ≤ 20 → 20 - i = d → d < k → -10 ≤ c0 + step * i → c0 + step * i ≤ 10 → (step = 1 → i ≤ by0) → (step = -1 → by0 ≤ -i) →
    clock_Drift.l0 k (by0 - step * i) step i (c0 + step * i) = some (clamp (c0 + by0)) := by
  intro d
  induction d with
  | zero =>
    intro k i h0 h1 hd hk hl hu hb hb'
    obtain ⟨k, rfl⟩ : ∃ m, k = m + 1 := ⟨k - 1, by omega⟩
    simp only [clock_Drift.l0]
    rw [if_neg (by omega)]
    congr 1
    unfold clamp
    rcases hs with ⟨rfl, hs⟩ | ⟨rfl, hs⟩
    · have := hb rfl
      split <;> (try split) <;> omega
    · have := hb' rfl
      split <;> (try split) <;> omega
  | succ d ih =>
    intro k i h0 h1 hd hk hl hu hb hb'
    obtain ⟨k, rfl⟩ : ∃ m, k = m + 1 := ⟨k - 1, by omega⟩
    simp only [clock_Drift.l0]
    rw [if_pos (by omega)]
    by_cases hz : by0 - step * i = 0
    · rw [if_pos hz]
      congr 1
      unfold clamp
      split <;> (try split) <;> omega
    · rw [if_neg hz, valid_eq]
      simp only [Option.bind_some]
      have hw : wrap64 (c0 + step * i + step) = c0 + step * (i + 1) := by
        rcases hs with ⟨rfl, hs⟩ | ⟨rfl, hs⟩
        · rw [wrap_id (by omega) (by omega)]; omega
        · rw [wrap_id (by omega) (by omega)]; omega
      rw [hw]
      by_cases hv : -10 ≤ c0 + step * (i + 1) ∧ c0 + step * (i + 1) ≤ 10
      · rw [if_pos (by simpa using hv)]
        have hw2 : wrap64 (by0 - step * i - step) = by0 - step * (i + 1) := by
          rcases hs with ⟨rfl, hs⟩ | ⟨rfl, hs⟩
          · have := hb rfl
            rw [wrap_id (by omega) (by omega)]; omega
          · have := hb' rfl
            rw [wrap_id (by omega) (by omega)]; omega
        rw [hw2, wrap_id (n := i + 1) (by omega) (by omega)]
        refine ih k (i + 1) (by omega) (by omega) (by omega) (by omega) hv.1 hv.2 ?_ ?_
        · rintro rfl; have := hb rfl; omega
        · rintro rfl; have := hb' rfl; omega
      · rw [if_neg (by simpa using hv)]
        congr 1
        unfold clamp
        rcases hs with ⟨rfl, hs⟩ | ⟨rfl, hs⟩
        · have := hb rfl
          split <;> (try split) <;> omega
        · have := hb' rfl
          split <;> (try split) <;> omega

theorem drift_eq {k : Nat} (hk : 30 ≤ k) {c b : Int} (hc : -10 ≤ c ∧ c ≤ 10) (hb : -9223372036854775808 ≤ b ∧ b ≤ 9223372036854775807) : clock_Drift.f k c b = some (clamp (c + b)) := by
  obtain ⟨k, rfl⟩ : ∃ m, k = m + 1 := ⟨k - 1, by omega⟩
  unfold clock_Drift.f
  by_cases h : b < 0
  · rw [if_pos h]; simp only [clock_Drift.j0]
    have := drift_loop c b (-1) hc hb (.inr ⟨rfl, h⟩) 20 k 0 (by omega) (by omega) (by omega) (by omega) (by omega) (by omega) (by omega) (by omega)
    simpa using this
  · rw [if_neg h]; simp only [clock_Drift.j0]
    have := drift_loop c b 1 hc hb (.inl ⟨rfl, by omega⟩) 20 k 0 (by omega) (by omega) (by omega) (by omega) (by omega) (by omega) (by omega) (by omega)
    simpa using this

theorem sanity_eq {k : Nat} (hk : 40 ≤ k) : burgagelaw16_sanity.f k = some true := by
  obtain ⟨k, rfl⟩ : ∃ m, k = m + 2 := ⟨k - 2, by omega⟩
  unfold burgagelaw16_sanity.f
  rw [read_eq (by omega) (by omega)]
  simp only [Option.bind_some]
  rw [if_pos (by decide), between_eq (by omega)]
  simp only [Option.bind_some, burgagelaw16_sanity.j0]
  rw [holds_eq (by omega), holds_eq (by omega), over_eq (by omega), over_eq (by omega), wait_eq (by omega) (by omega), wait_eq (by omega) (by omega)]
  simp only [Option.bind_some]
  simp only [burgagelaw16_sanity.j1]
  rw [drift_eq (by omega) (by omega) (by omega), drift_eq (by omega) (by omega) (by omega)]
  simp only [Option.bind_some]
  rw [valid_eq, valid_eq]
  simp only [Option.bind_some]
  decide
end Go.Proofs.Ytmhpclmfacejhaa.Pure
