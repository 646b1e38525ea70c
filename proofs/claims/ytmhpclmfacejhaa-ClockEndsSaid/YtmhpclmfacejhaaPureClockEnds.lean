/- The pure statement of the law ClockEnds: what the clock's functions compute answers as the law says. -/
import Derived.Test.YtmhpclmfacejhaaPCx9
import Derived.Test.YtmhpclmfacejhaaPureC
namespace Go.Proofs.Ytmhpclmfacejhaa.Pure
open Go.RowKit Go.Proofs.Ytmhpclmfacejhaa.PC Go.Proofs.YtmhpclmfacejhaaW.PrintWords Go.Proofs.YtmhpclmfacejhaaW.PrintLast Go.Proofs.YtmhpclmfacejhaaW.PrintMore

theorem ends_loop (t : Int) (ht : -1152921504606846976 ≤ t ∧ t ≤ 1152921504606846976) (b : Bool) : ∀ (d : Nat) (k : Nat) (n i : Int), t - 60 ≤ i → i ≤ t + 60 → t + 60 - i = d → d < k → n = (if i < t - 20 then 0 else if i < t + 20 then i - (t - 20) else 40) →
    burgagelaw16_ClockEnds.l0 k b t n i = some b := by
  intro d
  induction d with
  | zero =>
    intro k n i h0 h1 hd hk hn
    obtain ⟨k, rfl⟩ : ∃ m, k = m + 1 := ⟨k - 1, by omega⟩
    simp only [burgagelaw16_ClockEnds.l0]
    rw [wrap_id (n := t + 60) (by omega) (by omega), if_neg (by omega)]
    rw [if_neg (by omega), if_neg (by omega)] at hn
    subst hn
    rw [if_pos rfl, wrap_id (n := t - 21) (by omega) (by omega), wrap_id (n := t - 20) (by omega) (by omega), wrap_id (n := t + 20) (by omega) (by omega), wrap_id (n := t + 19) (by omega) (by omega)]
    rw [holds_eq (by omega), holds_eq (by omega), over_eq (by omega), over_eq (by omega)]
    simp only [Option.bind_some, decide_eq_true_eq]
    rw [if_pos (by omega), if_neg (by omega), if_pos (by omega), if_neg (by omega)]
  | succ d ih =>
    intro k n i h0 h1 hd hk hn
    obtain ⟨k, rfl⟩ : ∃ m, k = m + 1 := ⟨k - 1, by omega⟩
    have hb : 0 ≤ n ∧ n ≤ 40 := by split at hn <;> (try split at hn) <;> omega
    simp only [burgagelaw16_ClockEnds.l0]
    rw [wrap_id (n := t + 60) (by omega) (by omega), if_pos (by omega), wrap_id (n := i + 1) (by omega) (by omega), wrap_id (n := n + 1) (by omega) (by omega), holds_eq (by omega), over_eq (by omega)]
    simp only [Option.bind_some, decide_eq_true_eq]
    by_cases hh : i + 20 < t
    · rw [if_pos hh]
      exact ih k n (i + 1) (by omega) (by omega) (by omega) (by omega) (by split at hn <;> split <;> (try split) <;> omega)
    · rw [if_neg hh]
      by_cases ho : t ≤ i - 20
      · rw [if_pos ho]
        exact ih k n (i + 1) (by omega) (by omega) (by omega) (by omega) (by rw [if_neg (by omega), if_neg (by omega)] at hn; rw [if_neg (by omega), if_neg (by omega)]; exact hn)
      · rw [if_neg ho]
        refine ih k (n + 1) (i + 1) (by omega) (by omega) (by omega) (by omega) ?_
        rw [if_neg (by omega), if_pos (by omega)] at hn
        rw [if_neg (by omega)]
        split <;> omega

theorem ClockEnds : burgagelaw16_ClockEnds.Pure := by
  intro u hu
  obtain ⟨t, ht, t1, t2⟩ := time_eq u hu
  refine ⟨200, ?_⟩
  unfold burgagelaw16_ClockEnds.f
  rw [sanity_eq (by omega), ht]
  simp only [Option.bind_some]
  rw [wrap_id (n := t - 60) (by omega) (by omega)]
  exact ends_loop t ⟨t1, t2⟩ true 120 200 0 (t - 60) (by omega) (by omega) (by omega) (by omega) (by rw [if_pos (by omega)])

end Go.Proofs.Ytmhpclmfacejhaa.Pure
