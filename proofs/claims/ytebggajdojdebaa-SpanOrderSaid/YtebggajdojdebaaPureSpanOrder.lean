/- The law SpanOrder of spans, over numbers and lists alone. -/
import Derived.Test.YtebggajdojdebaaPSx15
import Derived.Test.YtebggajdojdebaaPureS
namespace Go.Proofs.Ytebggajdojdebaa.Pure
open Go.RowKit Go.Proofs.Ytebggajdojdebaa.PS Go.Proofs.YtebggajdojdebaaW.PrintWords Go.Proofs.YtebggajdojdebaaW.PrintLast Go.Proofs.YtebggajdojdebaaW.PrintMore
theorem memS_of_mem {l m : List S24} (h : ∀ s, s ∈ l ↔ s ∈ m) (n : Int) : memS l n = memS m n := by
  rw [Bool.eq_iff_iff, memS_iff, memS_iff]
  exact ⟨fun ⟨s, hs, k⟩ => ⟨s, (h s).1 hs, k⟩, fun ⟨s, hs, k⟩ => ⟨s, (h s).2 hs, k⟩⟩
theorem norm_same {l a : List S24} (hl : l.length ≤ 100) (ha : a.length ≤ 100) (h : ∀ n, memS l n = memS a n) : span_Norm.f l = some (setF hasE l []) ∧ Ev (fun k => r11_Same.f k (setF hasE l []) (setF hasE a [])) true := by
  obtain ⟨e1, c1, B1⟩ := (Box.self l hl).norm (by decide)
  obtain ⟨_, c2, B2⟩ := (Box.self a ha).norm (by decide)
  exact ⟨e1, B1.same B2 c1 c2 (by decide) h⟩
theorem turned_mem {a : List S24} {i k : Nat} (hi : i < a.length) (hk : k < a.length) (s : S24) : s ∈ (a.set i a[k]).set k a[i] ↔ s ∈ a := by
  have L : ((a.set i a[k]).set k a[i]).length = a.length := by rw [List.length_set, List.length_set]
  constructor
  · intro h
    obtain ⟨j, hj, rfl⟩ := List.mem_iff_getElem.1 h
    rw [List.getElem_set]
    split
    · exact List.getElem_mem _
    · rw [List.getElem_set]
      split <;> exact List.getElem_mem _
  · intro h
    obtain ⟨j, hj, rfl⟩ := List.mem_iff_getElem.1 h
    by_cases h1 : j = i
    · subst h1
      refine List.mem_iff_getElem.2 ⟨k, by omega, ?_⟩
      rw [List.getElem_set, if_pos rfl]
    · by_cases h2 : j = k
      · subst h2
        refine List.mem_iff_getElem.2 ⟨i, by omega, ?_⟩
        rw [List.getElem_set, if_neg h1, List.getElem_set, if_pos rfl]
      · refine List.mem_iff_getElem.2 ⟨j, by omega, ?_⟩
        rw [List.getElem_set, if_neg (fun e => h2 e.symm), List.getElem_set, if_neg (fun e => h1 e.symm)]
theorem parts_mem {a : List S24} {i : Nat} (hi : i < a.length) {cut : Int} (h1 : a[i].f0 ≤ cut) (h2 : cut ≤ a[i].f1) (n : Int) : memS (a.set i ⟨a[i].f0, cut⟩ ++ [⟨cut, a[i].f1⟩]) n = memS a n := by
  rw [Bool.eq_iff_iff, memS_iff, memS_iff]
  constructor
  · rintro ⟨s, hs, k1, k2⟩
    rcases List.mem_append.1 hs with hs | hs
    · obtain ⟨j, hj, rfl⟩ := List.mem_iff_getElem.1 hs
      rw [List.length_set] at hj
      rw [List.getElem_set] at k1 k2
      by_cases e : i = j
      · rw [if_pos e] at k1 k2
        exact ⟨a[i], List.getElem_mem _, k1, by dsimp only at k2; omega⟩
      · rw [if_neg e] at k1 k2
        exact ⟨a[j], List.getElem_mem _, k1, k2⟩
    · rw [List.mem_singleton.1 hs] at k1 k2
      exact ⟨a[i], List.getElem_mem _, by dsimp only at k1; omega, k2⟩
  · rintro ⟨s, hs, k1, k2⟩
    obtain ⟨j, hj, rfl⟩ := List.mem_iff_getElem.1 hs
    by_cases e : i = j
    · subst e
      by_cases g : n < cut
      · refine ⟨⟨a[i].f0, cut⟩, List.mem_append_left _ (List.mem_iff_getElem.2 ⟨i, by rw [List.length_set]; exact hi, ?_⟩), k1, g⟩
        rw [List.getElem_set, if_pos rfl]
      · exact ⟨⟨cut, a[i].f1⟩, List.mem_append_right _ (List.mem_singleton.2 rfl), by dsimp only; omega, k2⟩
    · refine ⟨a[j], List.mem_append_left _ (List.mem_iff_getElem.2 ⟨j, by rw [List.length_set]; exact hj, ?_⟩), k1, k2⟩
      rw [List.getElem_set, if_neg e]
theorem tmod_idx {p : Int} {n : Nat} (hp : 0 ≤ p) (hn : 0 < n) : ∃ i : Nat, i < n ∧ Int.tmod p n = (i : Int) := by
  have h1 := Int.tmod_lt_of_pos p (show (0 : Int) < n by omega)
  have h2 := Int.tmod_nonneg (n : Int) hp
  exact ⟨(Int.tmod p n).toNat, by omega, by omega⟩
theorem SpanOrder : l11_SpanOrder.Pure := by
  intro l0 p q cut h0 h1 h2
  refine Ev.rounds ?_
  unfold l11_SpanOrder.f
  refine Ev.bind sane_ev (Ev.bind' (short_f l0) ?_)
  have A := (take_box l0).len
  generalize l0.take 12 = a at A ⊢
  have hN := norm_f a (by omega)
  refine Ev.ite (fun g => ?_) (fun g => ?_)
  · have e : a = [] := List.length_eq_zero_iff.1 (by omega)
    subst e
    have hl := norm_len [] (by decide)
    rw [List.length_nil] at hl
    exact Ev.bind' hN (Ev.pos (by omega) (Ev.now _))
  · have b0 := bounds_u8 h1.1
    have b1 := bounds_u8 h1.2
    rw [wrap_id (n := p) (by omega) (by omega), wrap_id (n := q) (by omega) (by omega)]
    obtain ⟨i, hi, ei⟩ := tmod_idx (p := p) (n := a.length) b0.1 (by omega)
    obtain ⟨k, hk, ek⟩ := tmod_idx (p := q) (n := a.length) b1.1 (by omega)
    rw [ei, ek]
    simp only [Option.bind_some, List.nil_append, List.length_nil, rd_get hi, rd_get hk, Int.toNat_natCast]
    obtain ⟨e1, s1⟩ := norm_same (l := (a.set i a[k]).set k a[i]) (a := a) (by rw [List.length_set, List.length_set]; omega) (by omega) (memS_of_mem (turned_mem hi hk))
    obtain ⟨e2, s2⟩ := norm_same (l := a ++ [a[i]]) (a := a) (by rw [List.length_append, List.length_singleton]; omega) (by omega) (memS_of_mem (fun s => by
      rw [List.mem_append, List.mem_singleton]
      exact ⟨fun h => h.elim id (fun e => by rw [e]; exact List.getElem_mem _), .inl⟩))
    obtain ⟨_, s3⟩ := norm_same (l := a) (a := a) (by omega) (by omega) (fun _ => rfl)
    refine Ev.bind' hN (Ev.pos (by omega) (Ev.pos (by omega) (Ev.pos (by omega) (Ev.pos (by omega) (Ev.pos (by omega) (Ev.pos (by omega) (Ev.pos (by omega) (Ev.pos (by omega) (Ev.pos (by rw [List.length_singleton]; omega) ?_)))))))))
    refine Ev.bind' e1 (Ev.bind s1 (Ev.pos rfl (Ev.bind' e2 (Ev.bind s2 (Ev.pos rfl (Ev.bind' (union_f a [] (by omega) (by decide)) (Ev.bind s3 (Ev.round ?_))))))))
    simp only [l11_SpanOrder.j0, rd_get hi]
    have last : cut < a[i].f0 ∨ cut > a[i].f1 ∨ (a[i].f0 ≤ cut ∧ cut ≤ a[i].f1) := by omega
    have out : Ev (fun n => l11_SpanOrder.j1 n cut true a (setF hasE a []) i true) true := by
      refine Ev.round ?_
      simp only [l11_SpanOrder.j1]
      exact Ev.pos trivial (Ev.now _)
    refine Ev.neg (by simp) (Ev.pos (by omega) (Ev.pos (by omega) (Ev.ite (fun _ => out) (fun g1 => ?_))))
    by_cases g2 : cut > a[i].f1
    · rw [decide_eq_true g2]; exact out
    · rw [decide_eq_false g2]
      obtain ⟨e4, s4⟩ := norm_same (l := a.set i ⟨a[i].f0, cut⟩ ++ [⟨cut, a[i].f1⟩]) (a := a) (by rw [List.length_append, List.length_singleton, List.length_set]; omega) (by omega) (parts_mem hi (by omega) (by omega))
      refine Ev.round ?_
      simp only [l11_SpanOrder.j1, Option.bind_some, List.nil_append, List.length_nil, rd_get hi, Int.toNat_natCast]
      refine Ev.neg (by simp) (Ev.pos (by omega) (Ev.pos (by omega) (Ev.pos (by omega) (Ev.pos (by omega) (Ev.pos (by rw [List.length_set, List.length_singleton]; omega) ?_)))))
      exact Ev.bind' e4 (Ev.bind s4 (Ev.pos rfl (Ev.now _)))
end Go.Proofs.Ytebggajdojdebaa.Pure
