/- The pure statement of the law ExtentLimits, over numbers and lists alone: the law's printed function answers true at every input within its bounds. -/
import Derived.Test.YtfhjbhbmbnnimaaPEx18
import Derived.Test.YtfhjbhbmbnnimaaPureE
namespace Go.Proofs.Ytfhjbhbmbnnimaa.Pure
open Go.RowKit Go.Proofs.Ytfhjbhbmbnnimaa.PE Go.Proofs.YtfhjbhbmbnnimaaW.PrintWords Go.Proofs.YtfhjbhbmbnnimaaW.PrintLast Go.Proofs.YtfhjbhbmbnnimaaW.PrintMore

/-- What is right for a piece, as the law says it. -/
def RB (a b c : Int) : Bool := decide (1 ≤ c ∧ c ≤ 1048576 ∧ 0 ≤ b ∧ b + c ≤ 1048576 ∧ ((a = 0 ∨ a = -1) ∧ b = 0 ∨ 1 ≤ a ∧ a ≤ 4095))

theorem right_any (a b c : Int) (hb : -9223372036854775808 ≤ b ∧ b ≤ 9223372036854775807) : Ev (fun k => extent_right.f k a b c) (RB a b c) := by
  have hj : ∀ x, x = true → (¬ (1 ≤ c ∧ c ≤ 1048576 ∧ 0 ≤ b ∧ -1 ≤ a ∧ a ≤ 4095)) → Ev (fun k => extent_right.j0 k x a b c) (RB a b c) := by
    intro x hx h
    refine Ev.round ?_
    simp only [extent_right.j0]
    refine Ev.pos hx ?_
    have : RB a b c = false := by
      unfold RB
      refine decide_eq_false ?_
      omega
    rw [this]
    exact Ev.now _
  unfold extent_right.f
  refine Ev.ite (fun h => hj _ rfl (by omega)) (fun h1 => Ev.ite (fun h => hj _ rfl (by omega)) (fun h2 => Ev.ite (fun h => hj _ rfl (by omega)) (fun h3 => Ev.ite (fun h => hj _ rfl (by omega)) (fun h4 => ?_))))
  by_cases h5 : a ≥ 4096
  · exact hj _ (decide_eq_true h5) (by omega)
  · rw [decide_eq_false h5]
    refine Ev.round ?_
    simp only [extent_right.j0]
    refine Ev.neg (by decide) (Ev.ite (fun h6 => Ev.is ?_) (fun h6 => Ev.is ?_))
    · rw [Option.some.injEq, Bool.eq_iff_iff]
      unfold RB
      simp only [beq_iff_eq, decide_eq_true_eq]
      omega
    · rw [wrap_id (by omega) (by omega), Option.some.injEq, Bool.eq_iff_iff]
      unfold RB
      simp only [decide_eq_true_eq]
      omega

theorem valid_one (a b c : Int) (hb : -9223372036854775808 ≤ b ∧ b ≤ 9223372036854775807) (hc : -9223372036854775808 ≤ c ∧ c ≤ 9223372036854775807) : Ev (fun k => extent_Valid.f k [(⟨a, b, c⟩ : S58)]) (RB a b c) := by
  unfold extent_Valid.f
  refine Ev.round ?_
  have hr : rd_T58 [(⟨a, b, c⟩ : S58)] 0 = ⟨a, b, c⟩ := rfl
  simp only [extent_Valid.l0, List.length_singleton, hr]
  refine Ev.pos (by decide) (Ev.pos (by decide) (Ev.pos (by decide) ?_))
  refine Ev.bind (right_any a b c hb) ?_
  have hj : ∀ x, x = !(RB a b c) → Ev (fun k => extent_Valid.j1 k [(⟨a, b, c⟩ : S58)] 1048576 [(⟨a, b, c⟩ : S58)] 1 0 x a b c) (RB a b c) := by
    intro x hx
    subst hx
    refine Ev.round ?_
    simp only [extent_Valid.j1]
    by_cases h : RB a b c = true
    · rw [h]
      have h' := of_decide_eq_true h
      refine Ev.neg (by decide) (Ev.neg (by rw [wrap_id (by omega) (by omega)]; omega) ?_)
      refine Ev.round ?_
      simp only [extent_Valid.l0]
      refine Ev.neg (by rw [wrap_id (by omega) (by omega)]; omega) (Ev.now _)
    · rw [Bool.eq_false_iff.2 h]
      exact Ev.pos rfl (Ev.now _)
  refine Ev.ite (fun h => Ev.neg (by decide) (hj _ (by rw [h]; rfl))) (fun h => hj _ (by rw [Bool.eq_false_iff.2 h]; rfl))

theorem bx_nil : BX [] := ⟨(fun b hb => by cases hb), (fun b hb => by cases hb), (fun b hb => by cases hb), (fun b hb => by cases hb), (fun b hb => by cases hb), by simp⟩
theorem nil_body : Body [] := body_nf bx_nil

theorem put_nil (off n : Int) (ho : -9223372036854775808 ≤ off ∧ off ≤ 9223372036854775807) (hn : -9223372036854775808 ≤ n ∧ n ≤ 9223372036854775807) :
    (off < 0 ∨ n < 1 → l08_put.f [] off 1 n = some ([], 1)) ∧ (0 ≤ off → 1 ≤ n → 1048576 < off + n → l08_put.f [] off 1 n = some ([], 2)) := by
  refine ⟨fun h => ?_, fun h1 h2 h3 => ?_⟩
  · unfold l08_put.f extent_Put.f
    rw [valid_eq nil_body]
    simp only [Option.bind_some]
    rw [if_pos trivial, if_neg (by omega), if_neg (by omega)]
    by_cases h1 : off < 0
    · rw [if_pos h1]; rfl
    · rw [if_neg h1, if_pos (by omega)]; rfl
  · unfold l08_put.f extent_Put.f
    rw [valid_eq nil_body]
    simp only [Option.bind_some]
    rw [if_pos trivial, if_neg (by omega), if_neg (by omega), if_neg (by omega), if_neg (by omega)]
    by_cases h4 : off > 1048576
    · rw [if_pos h4]; rfl
    · rw [if_neg h4, wrap_id (n := 1048576 - off) (by omega) (by omega), if_pos (by omega)]; rfl
theorem cut_nil (n : Int) : (n < 0 → l08_cut.f [] n = some ([], 1)) ∧ (1048576 < n → l08_cut.f [] n = some ([], 2)) := by
  refine ⟨fun h => ?_, fun h => ?_⟩
  · unfold l08_cut.f extent_Cut.f
    rw [valid_eq nil_body]
    simp only [Option.bind_some]
    rw [if_pos trivial, if_pos h]; rfl
  · unfold l08_cut.f extent_Cut.f
    rw [valid_eq nil_body]
    simp only [Option.bind_some]
    rw [if_pos trivial, if_neg (by omega), if_pos (by omega)]; rfl
theorem cut_nil_any (n : Int) : ∃ y e, l08_cut.f [] n = some (y, e) ∧ (n < 0 → e = 1) ∧ ((e == 0) = decide (0 ≤ n ∧ n ≤ 1048576)) := by
  rcases Int.lt_or_le n 0 with h | h
  · exact ⟨_, _, (cut_nil n).1 h, fun _ => rfl, by simp; omega⟩
  rcases Int.lt_or_le 1048576 n with h' | h'
  · exact ⟨_, _, (cut_nil n).2 h', fun _ => by omega, by simp; omega⟩
  · exact ⟨_, _, cut_eq bx_nil n h h', fun _ => by omega, by simp; omega⟩

theorem ExtentLimits : l08_ExtentLimits.Pure := by
  intro a b c off n hp ho hn
  obtain ⟨u0, u1, u2⟩ := hp
  obtain ⟨a0, b0⟩ := bounds_i64 u0
  obtain ⟨a1, b1⟩ := bounds_i64 u1
  obtain ⟨a2, b2⟩ := bounds_i64 u2
  obtain ⟨a3, b3⟩ := bounds_i64 ho
  obtain ⟨a4, b4⟩ := bounds_i64 hn
  have h2 : ∀ fits x, (¬ (off < 0 ∨ n < 1) → fits = decide (off + n ≤ 1048576)) → (x = decide (off < 0 ∨ n < 1)) → ∀ y1 y2 z1 z2, l08_put.f [] off 1 n = some (y1, y2) → l08_cut.f [] n = some (z1, z2) →
      Ev (fun k => l08_ExtentLimits.j2 k off n true fits x y1 y2 z1 z2) true := by
    intro fits x hf hx y1 y2 z1 z2 hy hz
    refine Ev.round ?_
    simp only [l08_ExtentLimits.j2]
    obtain ⟨q1, q2, q3, q4, q5⟩ := cut_nil_any n
    rw [q3] at hz
    obtain ⟨rfl, rfl⟩ := Prod.mk.inj (Option.some.inj hz)
    by_cases h1 : off < 0 ∨ n < 1
    · rw [(put_nil off n ⟨a3, b3⟩ ⟨a4, b4⟩).1 h1] at hy
      obtain ⟨rfl, rfl⟩ := Prod.mk.inj (Option.some.inj hy)
      refine Ev.pos (by rw [hx]; exact decide_eq_true h1) (Ev.pos rfl (Ev.ite (fun _ => Ev.now _) (fun h3 => Ev.ite (fun _ => Ev.now _) (fun h4 => Ev.pos ?_ (Ev.now _)))))
      rcases Int.lt_or_le n 0 with h5 | h5
      · exact absurd (q4 h5) h4
      · omega
    · refine Ev.neg (by rw [hx, decide_eq_false h1]; decide) ?_
      by_cases h6 : off + n ≤ 1048576
      · have e := put_eq bx_nil off 1 n (by omega) (by omega) h6 (by omega) (by omega)
        rw [nf_nil] at e
        rw [e] at hy
        obtain ⟨rfl, rfl⟩ := Prod.mk.inj (Option.some.inj hy)
        have e2 := cut_eq bx_nil n (by omega) (by omega)
        rw [nf_nil, q3] at e2
        obtain ⟨rfl, rfl⟩ := Prod.mk.inj (Option.some.inj e2)
        have hq := bx_put bx_nil off.toNat n.toNat 1 (by omega) (by omega) (by omega)
        have hc := bx_cut bx_nil n.toNat (by omega)
        refine Ev.pos (by rw [hf h1]; exact decide_eq_true h6) (Ev.pos rfl (Ev.bind (rvalid_ev (body_nf hq)) (Ev.pos rfl (Ev.bind (rsize_ev (body_nf hq)) (Ev.pos ?_ (Ev.pos rfl (Ev.bind (rsize_ev (body_nf hc)) (Ev.pos ?_ (Ev.now _)))))))))
        · rw [sz_nf hq.wf, putX_len, wrap_id (by omega) (by omega)]; simp only [List.length_nil]; omega
        · rw [sz_nf hc.wf, cutX_len]; omega
      · rw [(put_nil off n ⟨a3, b3⟩ ⟨a4, b4⟩).2 (by omega) (by omega) (by omega)] at hy
        obtain ⟨rfl, rfl⟩ := Prod.mk.inj (Option.some.inj hy)
        refine Ev.neg (by rw [hf h1, decide_eq_false h6]; decide) (Ev.pos rfl (Ev.pos rfl (Ev.pos ?_ (Ev.now _))))
        have e : decide (0 ≤ n ∧ n ≤ 1048576) = decide (n ≤ 1048576) := decide_eq_decide.2 (by omega)
        rw [q5, e]
        simp
  have h1 : ∀ fits, (¬ (off < 0 ∨ n < 1) → fits = decide (off + n ≤ 1048576)) → Ev (fun k => l08_ExtentLimits.j1 k off n true fits) true := by
    intro fits hf
    refine Ev.round ?_
    simp only [l08_ExtentLimits.j1]
    obtain ⟨q1, q2, q3, _, _⟩ := cut_nil_any n
    obtain ⟨y1, y2, hy⟩ : ∃ y1 y2, l08_put.f [] off 1 n = some (y1, y2) := by
      by_cases h1 : off < 0 ∨ n < 1
      · exact ⟨_, _, (put_nil off n ⟨a3, b3⟩ ⟨a4, b4⟩).1 h1⟩
      · by_cases h6 : off + n ≤ 1048576
        · exact ⟨_, _, put_eq bx_nil off 1 n (by omega) (by omega) h6 (by omega) (by omega)⟩
        · exact ⟨_, _, (put_nil off n ⟨a3, b3⟩ ⟨a4, b4⟩).2 (by omega) (by omega) (by omega)⟩
    refine Ev.bind' hy (Ev.bind' q3 (Ev.ite (fun h => h2 _ _ hf ?_ _ _ _ _ hy q3) (fun h => h2 _ _ hf ?_ _ _ _ _ hy q3)))
    · exact (decide_eq_true (.inl h)).symm
    · exact decide_eq_decide.2 ⟨fun h' => .inr h', fun h' => h'.elim (fun h'' => absurd h'' h) id⟩
  have h0 : ∀ x, (x = RB a b c) → Ev (fun k => l08_ExtentLimits.j0 k off n true x a b c) true := by
    intro x hx
    refine Ev.round ?_
    simp only [l08_ExtentLimits.j0]
    refine Ev.bind (valid_one a b c ⟨a1, b1⟩ ⟨a2, b2⟩) (Ev.neg (by rw [hx]; simp) ?_)
    refine Ev.ite (fun h => Ev.ite (fun h' => h1 _ ?_) (fun h' => h1 _ ?_)) (fun h => h1 _ ?_)
    · intro hs
      rw [wrap_id (by omega) (by omega)]
    · intro hs; exact (decide_eq_false (by omega)).symm
    · intro hs; exact (decide_eq_false (by omega)).symm
  refine Ev.rounds ?_
  unfold l08_ExtentLimits.f
  refine Ev.bind' rfl ?_
  have hno : ¬ (1 ≤ c ∧ c ≤ 1048576 ∧ 0 ≤ b ∧ b + c ≤ 1048576 ∧ ((a = 0 ∨ a = -1) ∧ b = 0 ∨ 1 ≤ a ∧ a ≤ 4095)) → Ev (fun k => l08_ExtentLimits.j0 k off n true false a b c) true := fun h => h0 _ (decide_eq_false h).symm
  have hyes : (1 ≤ c ∧ c ≤ 1048576 ∧ 0 ≤ b ∧ b + c ≤ 1048576 ∧ ((a = 0 ∨ a = -1) ∧ b = 0 ∨ 1 ≤ a ∧ a ≤ 4095)) → Ev (fun k => l08_ExtentLimits.j0 k off n true true a b c) true := fun h => h0 _ (decide_eq_true h).symm
  refine Ev.ite (fun g1 => ?_) (fun g1 => hno (by omega))
  refine Ev.ite (fun g2 => ?_) (fun g2 => hno (by omega))
  refine Ev.ite (fun g3 => ?_) (fun g3 => hno (by omega))
  refine Ev.ite (fun g4 => ?_) (fun g4 => hno (by omega))
  rw [wrap_id (n := b + c) (by omega) (by omega)]
  refine Ev.ite (fun g5 => ?_) (fun g5 => hno (by omega))
  have hd : a ≥ 1 → (b ≠ 0 ∨ (a ≠ 0 ∧ a ≠ -1) ∨ True) → Ev (fun k => l08_ExtentLimits.j0 k off n true (decide (a ≤ 4095)) a b c) true := fun h _ => h0 _ (decide_eq_decide.2 (by omega))
  refine Ev.ite (fun g6 => ?_) (fun g6 => ?_)
  · refine Ev.ite (fun g7 => hyes (by omega)) (fun g7 => ?_)
    refine Ev.ite (fun g8 => ?_) (fun g8 => ?_)
    · exact Ev.ite (fun g9 => hd g9 (by omega)) (fun g9 => hno (by omega))
    · exact Ev.ite (fun g9 => hd g9 (by omega)) (fun g9 => hno (by omega))
  · refine Ev.ite (fun g7 => ?_) (fun g7 => ?_)
    · refine Ev.ite (fun g8 => hyes (by omega)) (fun g8 => ?_)
      exact Ev.ite (fun g9 => hd g9 (by omega)) (fun g9 => hno (by omega))
    · exact Ev.ite (fun g9 => hd g9 (by omega)) (fun g9 => hno (by omega))

end Go.Proofs.Ytfhjbhbmbnnimaa.Pure
