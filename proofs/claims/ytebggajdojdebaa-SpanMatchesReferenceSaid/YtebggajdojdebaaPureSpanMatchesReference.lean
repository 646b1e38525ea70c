/- The law SpanMatchesReference of spans, over numbers and lists alone. -/
import Derived.Test.YtebggajdojdebaaPSx9
import Derived.Test.YtebggajdojdebaaPureS
namespace Go.Proofs.Ytebggajdojdebaa.Pure
open Go.RowKit Go.Proofs.Ytebggajdojdebaa.PS Go.Proofs.YtebggajdojdebaaW.PrintWords Go.Proofs.YtebggajdojdebaaW.PrintLast Go.Proofs.YtebggajdojdebaaW.PrintMore
/-! ### the bounds of two sets -/
def Srt (B : List Int) : Prop := B.Pairwise (fun x y => x < y)
theorem rdI_get {B : List Int} {i : Nat} (h : i < B.length) : rd B (i : Int) = B[i] := by
  unfold rd
  rw [Int.toNat_natCast, List.getD_eq_getElem?_getD, List.getElem?_eq_getElem h]; rfl
theorem rdI_mem {B : List Int} {i : Int} (h0 : 0 ≤ i) (h1 : i < (B.length : Int)) : rd B i ∈ B := by
  obtain ⟨j, rfl⟩ : ∃ j : Nat, i = j := ⟨i.toNat, by omega⟩
  rw [rdI_get (by omega)]; exact List.getElem_mem _
theorem dropI {B : List Int} {i : Int} (h0 : 0 ≤ i) (h1 : i < (B.length : Int)) : B.drop i.toNat = rd B i :: B.drop (i + 1).toNat := by
  obtain ⟨j, rfl⟩ : ∃ j : Nat, i = j := ⟨i.toNat, by omega⟩
  rw [rdI_get (by omega), Int.toNat_natCast, List.drop_eq_getElem_cons (by omega), show ((j : Int) + 1).toNat = j + 1 by omega]
theorem takeI {B : List Int} {i : Int} (h0 : 0 ≤ i) (h1 : i < (B.length : Int)) : B.take (i + 1).toNat = B.take i.toNat ++ [rd B i] := by
  obtain ⟨j, rfl⟩ : ∃ j : Nat, i = j := ⟨i.toNat, by omega⟩
  rw [rdI_get (by omega), Int.toNat_natCast, show ((j : Int) + 1).toNat = j + 1 by omega, List.take_succ_eq_append_getElem (by omega)]
theorem srt_ins {B : List Int} {v : Int} {i : Nat} (h : Srt B) (h1 : ∀ y ∈ B.take i, y < v) (h2 : ∀ y ∈ B.drop i, v < y) : Srt (B.take i ++ [v] ++ B.drop i) := by
  unfold Srt at *
  have hs : (B.take i ++ B.drop i).Pairwise (fun x y => x < y) := by rw [List.take_append_drop]; exact h
  obtain ⟨p1, p2, p3⟩ := List.pairwise_append.1 hs
  rw [List.append_assoc, List.pairwise_append]
  refine ⟨p1, ?_, fun x hx y hy => ?_⟩
  · rw [List.singleton_append, List.pairwise_cons]; exact ⟨h2, p2⟩
  · rw [List.singleton_append] at hy
    rcases List.mem_cons.1 hy with rfl | hy
    · exact h1 x hx
    · exact p3 x hx y hy
theorem ins_any (x : List S24) (x7 v : Int) (B : List Int) (hB : Srt B) (hl : B.length ≤ 1000000) (hw7 : wrap64 (x7 + 1) = x7 + 1) : ∀ (d : Nat) (i : Int), 0 ≤ i → i ≤ B.length → (B.length : Int) - i = d → (∀ y ∈ B.take i.toNat, y < v) →
    ∃ B', Srt B' ∧ v ∈ B' ∧ (∀ y ∈ B, y ∈ B') ∧ B'.length ≤ B.length + 1 ∧ ∀ r, Ev (fun k => r11_bounds.l0 k x B' (x7 + 1)) r → Ev (fun k => r11_bounds.l1 k x B x7 v i) r := by
  intro d
  induction d with
  | zero =>
    intro i h0 h1 hd hp
    have hi : i.toNat = B.length := by omega
    rw [hi, List.take_length] at hp
    refine ⟨B ++ [v], ?_, by simp, fun y hy => List.mem_append_left _ hy, by simp, fun r hr => Ev.round ?_⟩
    · have := srt_ins (i := B.length) hB (by rw [List.take_length]; exact hp) (by rw [List.drop_length]; intro y hy; cases hy)
      rwa [List.take_length, List.drop_length, List.append_nil] at this
    · simp only [r11_bounds.l1, hw7, Option.bind_some, List.nil_append, List.length_nil, hi, List.take_length, List.drop_length, List.append_nil, List.length_append, List.length_cons]
      exact Ev.neg (by omega) (Ev.pos h0 (Ev.pos (by omega) (Ev.pos (by omega) (Ev.pos (by omega) (Ev.pos (by omega) hr)))))
  | succ d ih =>
    intro i h0 h1 hd hp
    have hm := rdI_mem h0 (show i < (B.length : Int) by omega)
    have hw : wrap64 (i + 1) = i + 1 := wrap_id (by omega) (by omega)
    by_cases g1 : rd B i < v
    · obtain ⟨B', q1, q2, q3, q4, q5⟩ := ih (i + 1) (by omega) (by omega) (by omega) (by
        rw [takeI h0 (by omega)]
        intro y hy
        rcases List.mem_append.1 hy with hy | hy
        · exact hp y hy
        · rw [List.mem_singleton.1 hy]; exact g1)
      refine ⟨B', q1, q2, q3, q4, fun r hr => Ev.round ?_⟩
      simp only [r11_bounds.l1, hw]
      exact Ev.pos (by omega) (Ev.pos h0 (Ev.pos g1 (q5 r hr)))
    · by_cases g2 : rd B i = v
      · refine ⟨B, hB, by rw [← g2]; exact hm, fun y hy => hy, by omega, fun r hr => Ev.round ?_⟩
        simp only [r11_bounds.l1, hw7]
        exact Ev.pos (by omega) (Ev.pos h0 (Ev.neg g1 (Ev.pos g2 hr)))
      · have hdr := dropI h0 (show i < (B.length : Int) by omega)
        have hS : Srt (B.drop i.toNat) := hB.sublist (List.drop_sublist _ _)
        refine ⟨B.take i.toNat ++ [v] ++ B.drop i.toNat, srt_ins hB hp ?_, by simp, fun y hy => ?_, ?_, fun r hr => Ev.round ?_⟩
        · intro y hy
          rw [hdr] at hy hS
          have := (List.pairwise_cons.1 hS).1
          rcases List.mem_cons.1 hy with rfl | hy
          · omega
          · have := this y hy; omega
        · rw [← List.take_append_drop i.toNat B] at hy
          rcases List.mem_append.1 hy with hy | hy
          · exact List.mem_append_left _ (List.mem_append_left _ hy)
          · exact List.mem_append_right _ hy
        · simp only [List.length_append, List.length_take, List.length_drop, List.length_cons, List.length_nil]; omega
        · simp only [r11_bounds.l1, hw7, Option.bind_some, List.nil_append, List.length_nil]
          have e1 : (B.take i.toNat).length ≤ 1000000 := by rw [List.length_take]; omega
          have e2 : (B.take i.toNat ++ [v]).length + (B.drop i.toNat).length ≤ 3000000 := by rw [List.length_append, List.length_drop, List.length_singleton]; omega
          exact Ev.pos (by omega) (Ev.pos h0 (Ev.neg g1 (Ev.neg g2 (Ev.pos (by omega) (Ev.pos (by omega) (Ev.pos (by omega) (Ev.pos (by omega) hr)))))))
/-- All the ends of a list of spans. -/
def Ends (l : List S24) (B : List Int) : Prop := ∀ s ∈ l, s.f0 ∈ B ∧ s.f1 ∈ B
theorem bounds_any (x : List S24) (hx : x.length ≤ 1000) : ∀ (d : Nat) (i : Int) (B : List Int), 0 ≤ i → i ≤ 2 * (x.length : Int) → 2 * (x.length : Int) - i = d → Srt B → (B.length : Int) ≤ i → (∀ j : Nat, (h : j < x.length) → (2 * (j : Int) < i → x[j].f0 ∈ B) ∧ (2 * (j : Int) + 1 < i → x[j].f1 ∈ B)) →
    ∃ B', Srt B' ∧ Ends x B' ∧ (B'.length : Int) ≤ 2 * (x.length : Int) ∧ Ev (fun k => r11_bounds.l0 k x B i) B' := by
  intro d
  induction d with
  | zero =>
    intro i B h0 h1 hd hB hl he
    refine ⟨B, hB, fun s hs => ?_, by omega, Ev.round ?_⟩
    · obtain ⟨j, hj, rfl⟩ := List.mem_iff_getElem.1 hs
      exact ⟨(he j hj).1 (by omega), (he j hj).2 (by omega)⟩
    · simp only [r11_bounds.l0, wrap_id (n := 2 * (x.length : Int)) (by omega) (by omega)]
      exact Ev.neg (by omega) (Ev.now _)
  | succ d ih =>
    intro i B h0 h1 hd hB hl he
    have hw7 : wrap64 (i + 1) = i + 1 := wrap_id (by omega) (by omega)
    have ht : Int.tdiv i 2 = i / 2 := Int.tdiv_eq_ediv_of_nonneg h0
    have hm : Int.tmod i 2 = i % 2 := Int.tmod_eq_emod_of_nonneg h0
    have hw2 : wrap64 (i / 2) = i / 2 := wrap_id (by omega) (by omega)
    obtain ⟨j, hj⟩ : ∃ j : Nat, i / 2 = j := ⟨(i / 2).toNat, by omega⟩
    have hjl : j < x.length := by omega
    have step : ∀ v, (i % 2 = 1 → v = x[j].f1) → (i % 2 = 0 → v = x[j].f0) → ∃ B', Srt B' ∧ Ends x B' ∧ (B'.length : Int) ≤ 2 * (x.length : Int) ∧ Ev (fun k => r11_bounds.j1 k x B i v) B' := by
      intro v hv1 hv0
      obtain ⟨B1, q1, q2, q3, q4, q5⟩ := ins_any x i v B hB (by omega) hw7 B.length 0 (by omega) (by omega) (by omega) (by intro y hy; simp at hy)
      have he1 : ∀ t : Nat, (h : t < x.length) → (2 * (t : Int) < i + 1 → x[t].f0 ∈ B1) ∧ (2 * (t : Int) + 1 < i + 1 → x[t].f1 ∈ B1) := by
        intro t htl
        refine ⟨fun hlt => ?_, fun hlt => ?_⟩
        · by_cases g : 2 * (t : Int) < i
          · exact q3 _ ((he t htl).1 g)
          · have e : t = j := by omega
            subst e
            rw [← hv0 (by omega)]; exact q2
        · by_cases g : 2 * (t : Int) + 1 < i
          · exact q3 _ ((he t htl).2 g)
          · have e : t = j := by omega
            subst e
            rw [← hv1 (by omega)]; exact q2
      obtain ⟨B2, p1, p2, p3, p4⟩ := ih (i + 1) B1 (by omega) (by omega) (by omega) q1 (by omega) he1
      refine ⟨B2, p1, p2, p3, Ev.round ?_⟩
      simp only [r11_bounds.j1]
      exact q5 _ p4
    have hrd : rd_T24 x (i / 2) = x[j] := by rw [hj]; exact rd_get hjl
    by_cases g : i % 2 = 1
    · obtain ⟨B', p1, p2, p3, p4⟩ := step x[j].f1 (fun _ => rfl) (fun h => by omega)
      refine ⟨B', p1, p2, p3, Ev.round ?_⟩
      simp only [r11_bounds.l0, wrap_id (n := 2 * (x.length : Int)) (by omega) (by omega), ht, hm, hw2, hrd]
      exact Ev.pos (by omega) (Ev.pos (by omega) (Ev.pos (by omega) (Ev.pos g p4)))
    · obtain ⟨B', p1, p2, p3, p4⟩ := step x[j].f0 (fun h => by omega) (fun _ => rfl)
      refine ⟨B', p1, p2, p3, Ev.round ?_⟩
      simp only [r11_bounds.l0, wrap_id (n := 2 * (x.length : Int)) (by omega) (by omega), ht, hm, hw2, hrd]
      exact Ev.pos (by omega) (Ev.pos (by omega) (Ev.pos (by omega) (Ev.neg g p4)))
theorem bounds_ev (a b : List S24) (h : (a ++ b).length ≤ 1000) : ∃ B, Srt B ∧ Ends a B ∧ Ends b B ∧ (B.length : Int) ≤ 2 * ((a ++ b).length : Int) ∧ Ev (fun k => r11_bounds.f k a b) B := by
  obtain ⟨B, q1, q2, q3, q4⟩ := bounds_any (a ++ b) h (2 * (a ++ b).length) 0 [] (by omega) (by omega) (by omega) List.Pairwise.nil (by simp) (fun j _ => ⟨fun h => by omega, fun h => by omega⟩)
  refine ⟨B, q1, fun s hs => q2 s (List.mem_append_left _ hs), fun s hs => q2 s (List.mem_append_right _ hs), q3, ?_⟩
  unfold r11_bounds.f
  simp only [Option.bind_some, List.nil_append, List.length_nil]
  rw [List.length_append] at h
  exact Ev.pos (by omega) (Ev.pos (by omega) q4)

/-! ### the reference's choice -/
theorem srt_lt {B : List Int} (h : Srt B) {i j : Int} (h0 : 0 ≤ i) (hij : i < j) (hj : j < (B.length : Int)) : rd B i < rd B j := by
  obtain ⟨p, rfl⟩ : ∃ p : Nat, i = p := ⟨i.toNat, by omega⟩
  obtain ⟨q, rfl⟩ : ∃ q : Nat, j = q := ⟨j.toNat, by omega⟩
  rw [rdI_get (by omega), rdI_get (by omega)]
  exact List.pairwise_iff_getElem.1 h p q (by omega) (by omega) (by omega)
theorem rd_idx {B : List Int} {v : Int} (h : v ∈ B) : ∃ i : Int, 0 ≤ i ∧ i < (B.length : Int) ∧ rd B i = v := by
  obtain ⟨j, hj, rfl⟩ := List.mem_iff_getElem.1 h
  exact ⟨j, by omega, by omega, rdI_get hj⟩
theorem srt_le {B : List Int} (h : Srt B) {i j : Int} (h0 : 0 ≤ i) (hij : i ≤ j) (hj : j < (B.length : Int)) : rd B i ≤ rd B j := by
  rcases Int.lt_or_eq_of_le hij with g | g
  · exact Int.le_of_lt (srt_lt h h0 g hj)
  · rw [g]; exact Int.le_refl _
/-- Between two bounds nothing changes. -/
theorem same_between {l : List S24} {B : List Int} (h : Srt B) (hl : Ends l B) {i n : Int} (h0 : 0 ≤ i) (h1 : i + 1 < (B.length : Int)) (g0 : rd B i ≤ n) (g1 : n < rd B (i + 1)) : memS l n = memS l (rd B i) := by
  have key : ∀ v ∈ B, (v ≤ n ↔ v ≤ rd B i) := by
    intro v hv
    obtain ⟨j, j0, j1, rfl⟩ := rd_idx hv
    refine ⟨fun k => ?_, fun k => by omega⟩
    by_cases hj : j ≤ i
    · exact srt_le h j0 hj (by omega)
    · have := srt_le h (i := i + 1) (j := j) (by omega) (by omega) j1; omega
  rw [Bool.eq_iff_iff, memS_iff, memS_iff]
  refine ⟨fun ⟨s, hs, k0, k1⟩ => ⟨s, hs, ?_, ?_⟩, fun ⟨s, hs, k0, k1⟩ => ⟨s, hs, ?_, ?_⟩⟩
  · exact (key _ (hl s hs).1).1 k0
  · have := key _ (hl s hs).2; omega
  · exact (key _ (hl s hs).1).2 k0
  · have := key _ (hl s hs).2; omega
theorem below_all {l : List S24} {B : List Int} (h : Srt B) (hl : Ends l B) {n : Int} (g : n < rd B 0) : memS l n = false := by
  refine (memS_false _ _).2 (fun s hs k => ?_)
  obtain ⟨j, j0, j1, e⟩ := rd_idx (hl s hs).1
  have := srt_le h (i := 0) (j := j) (by omega) j0 j1
  omega
theorem above_all {l : List S24} {B : List Int} (h : Srt B) (hl : Ends l B) {n i : Int} (h1 : i + 1 = (B.length : Int)) (g : rd B i ≤ n) : memS l n = false := by
  refine (memS_false _ _).2 (fun s hs k => ?_)
  obtain ⟨j, j0, j1, e⟩ := rd_idx (hl s hs).2
  have := srt_le h (i := j) (j := i) (by omega) (by omega) (by omega)
  omega
/-- What stands when the bounds up to `i` are done. -/
structure Chosen (B : List Int) (K : Int → Bool) (O : List S24) (i : Int) : Prop where
  canon : CanonS O
  ends : ∀ s ∈ O, s.f1 ≤ rd B i
  has : ∀ n, n < rd B i → memS O n = K n
  len : (O.length : Int) ≤ i
theorem memS_app (O : List S24) (s : S24) (n : Int) : memS (O ++ [s]) n = (memS O n || spanHas s n) := by
  unfold memS
  rw [List.any_append]
  simp only [List.any_cons, List.any_nil, Bool.or_false]
theorem chosen_skip {B : List Int} {K : Int → Bool} {O : List S24} {i : Int} (hB : Srt B) (h : Chosen B K O i) (h0 : 0 ≤ i) (h1 : i + 1 < (B.length : Int)) (hk : ∀ n, rd B i ≤ n → n < rd B (i + 1) → K n = false) : Chosen B K O (i + 1) := by
  have hlt := srt_lt hB h0 (show i < i + 1 by omega) h1
  refine ⟨h.canon, fun s hs => by have := h.ends s hs; omega, fun n hn => ?_, by have := h.len; omega⟩
  by_cases g : n < rd B i
  · exact h.has n g
  · rw [hk n (by omega) hn]
    exact (memS_false _ _).2 (fun s hs k => by have := h.ends s hs; omega)
theorem chosen_push {B : List Int} {K : Int → Bool} {O : List S24} {i : Int} (hB : Srt B) (h : Chosen B K O i) (h0 : 0 ≤ i) (h1 : i + 1 < (B.length : Int)) (hk : ∀ n, rd B i ≤ n → n < rd B (i + 1) → K n = true) (hne : ∀ s ∈ O, s.f1 ≠ rd B i) : Chosen B K (O ++ [⟨rd B i, rd B (i + 1)⟩]) (i + 1) := by
  have hlt := srt_lt hB h0 (show i < i + 1 by omega) h1
  refine ⟨⟨fun s hs => ?_, ?_⟩, fun s hs => ?_, fun n hn => ?_, by have := h.len; rw [List.length_append, List.length_singleton]; omega⟩
  · rcases List.mem_append.1 hs with hs | hs
    · exact h.canon.pos s hs
    · rw [List.mem_singleton.1 hs]; exact hlt
  · rw [List.pairwise_append]
    refine ⟨h.canon.apart, List.pairwise_singleton _ _, fun s hs t ht => ?_⟩
    rw [List.mem_singleton.1 ht]
    have := h.ends s hs; have := hne s hs
    dsimp only; omega
  · rcases List.mem_append.1 hs with hs | hs
    · have := h.ends s hs; omega
    · rw [List.mem_singleton.1 hs]; exact Int.le_refl _
  · rw [memS_app]
    have hs := spanHas_iff ⟨rd B i, rd B (i + 1)⟩ n
    dsimp only at hs
    by_cases g : n < rd B i
    · rw [h.has n g, show spanHas ⟨rd B i, rd B (i + 1)⟩ n = false by rw [← Bool.not_eq_true, hs]; omega, Bool.or_false]
    · rw [hs.2 ⟨by omega, hn⟩, Bool.or_true, hk n (by omega) hn]
theorem chosen_grow {B : List Int} {K : Int → Bool} {O : List S24} {s : S24} {i : Int} (hB : Srt B) (h : Chosen B K (O ++ [s]) i) (h0 : 0 ≤ i) (h1 : i + 1 < (B.length : Int)) (hk : ∀ n, rd B i ≤ n → n < rd B (i + 1) → K n = true) (he : s.f1 = rd B i) : Chosen B K (O ++ [⟨s.f0, rd B (i + 1)⟩]) (i + 1) := by
  have hlt := srt_lt hB h0 (show i < i + 1 by omega) h1
  have hp := h.canon.pos s (by simp)
  obtain ⟨p1, _, p3⟩ := List.pairwise_append.1 h.canon.apart
  refine ⟨⟨fun t ht => ?_, ?_⟩, fun t ht => ?_, fun n hn => ?_, by have := h.len; rw [List.length_append, List.length_singleton] at this ⊢; omega⟩
  · rcases List.mem_append.1 ht with ht | ht
    · exact h.canon.pos t (List.mem_append_left _ ht)
    · rw [List.mem_singleton.1 ht]; dsimp only; omega
  · rw [List.pairwise_append]
    refine ⟨p1, List.pairwise_singleton _ _, fun t ht u hu => ?_⟩
    rw [List.mem_singleton.1 hu]
    exact p3 t ht s (List.mem_singleton.2 rfl)
  · rcases List.mem_append.1 ht with ht | ht
    · have := h.ends t (List.mem_append_left _ ht); omega
    · rw [List.mem_singleton.1 ht]; exact Int.le_refl _
  · rw [memS_app]
    have hs := spanHas_iff ⟨s.f0, rd B (i + 1)⟩ n
    have hs' := spanHas_iff s n
    dsimp only at hs
    by_cases g : n < rd B i
    · rw [← h.has n g, memS_app]
      congr 1
      rw [Bool.eq_iff_iff, hs, hs']; omega
    · rw [hs.2 ⟨by omega, hn⟩, Bool.or_true, hk n (by omega) hn]
theorem rd_last {O : List S24} {s : S24} : rd_T24 (O ++ [s]) (wrap64 (((O ++ [s]).length : Int) - 1)) = s ∨ ¬ O.length ≤ 1000 := by
  by_cases h : O.length ≤ 1000
  · refine .inl ?_
    rw [List.length_append, List.length_singleton, wrap_id (by omega) (by omega)]
    unfold rd_T24
    rw [show (((O.length + 1 : Nat) : Int) - 1).toNat = O.length by omega, List.getD_eq_getElem?_getD, List.getElem?_append_right (by omega)]
    simp
  · exact .inr h
theorem set_last (O : List S24) (s t : S24) (h : O.length ≤ 1000) : (O ++ [s]).set (wrap64 (((O ++ [s]).length : Int) - 1)).toNat t = O ++ [t] := by
  rw [List.length_append, List.length_singleton, wrap_id (by omega) (by omega), show (((O.length + 1 : Nat) : Int) - 1).toNat = O.length by omega, List.set_append_right O.length t (Nat.le_refl _)]
  simp
/-- What the reference keeps. -/
def keep (op : Int) (p q : Bool) : Bool := if op = 0 then p || q else if op = 1 then p && q else p && !q
theorem keep_none (op : Int) : keep op false false = false := by unfold keep; repeat' split
                                                                 all_goals rfl
theorem choose_any {a b : List S24} {B : List Int} {op : Int} (hop : op = 0 ∨ op = 1 ∨ op = 2) (hB : Srt B) (ea : Ends a B) (eb : Ends b B) (hl : B.length ≤ 500) (la : a.length ≤ 100) (lb : b.length ≤ 100) : ∀ (d : Nat) (i : Int) (O : List S24), 0 ≤ i → i + 1 ≤ B.length → (B.length : Int) - (i + 1) = d → Chosen B (fun n => keep op (memS a n) (memS b n)) O i →
    ∃ R, CanonS R ∧ (R.length ≤ 500) ∧ (∀ n, memS R n = keep op (memS a n) (memS b n)) ∧ Ev (fun k => r11_choose.l0 k a b op O B i) R := by
  intro d
  induction d with
  | zero =>
    intro i O h0 h1 hd C
    have hlen := C.len
    refine ⟨O, C.canon, by omega, fun n => ?_, Ev.round ?_⟩
    · by_cases g : n < rd B i
      · exact C.has n g
      · rw [above_all hB ea (by omega) (show rd B i ≤ n by omega), above_all hB eb (by omega) (show rd B i ≤ n by omega), keep_none]
        exact (memS_false _ _).2 (fun s hs k => by have := C.ends s hs; omega)
    · simp only [r11_choose.l0, wrap_id (n := i + 1) (by omega) (by omega)]
      exact Ev.neg (by omega) (Ev.now _)
  | succ d ih =>
    intro i O h0 h1 hd C
    have hlen := C.len
    have hw : wrap64 (i + 1) = i + 1 := wrap_id (by omega) (by omega)
    have hK : ∀ n, rd B i ≤ n → n < rd B (i + 1) → keep op (memS a n) (memS b n) = keep op (memS a (rd B i)) (memS b (rd B i)) := fun n g0 g1 => by
      rw [same_between hB ea h0 (by omega) g0 g1, same_between hB eb h0 (by omega) g0 g1]
    have step : ∃ R, CanonS R ∧ (R.length ≤ 500) ∧ (∀ n, memS R n = keep op (memS a n) (memS b n)) ∧ Ev (fun k => r11_choose.j1 k a b op O B i (!keep op (memS a (rd B i)) (memS b (rd B i)))) R := by
      cases hk : keep op (memS a (rd B i)) (memS b (rd B i)) with
      | false =>
        obtain ⟨R, r1, r2, r3, r4⟩ := ih (i + 1) O (by omega) (by omega) (by omega) (chosen_skip hB C h0 (by omega) (fun n g0 g1 => by rw [hK n g0 g1, hk]))
        refine ⟨R, r1, r2, r3, Ev.round ?_⟩
        simp only [r11_choose.j1, hw]
        exact Ev.pos (by simp) r4
      | true =>
        have hk' : ∀ n, rd B i ≤ n → n < rd B (i + 1) → keep op (memS a n) (memS b n) = true := fun n g0 g1 => by rw [hK n g0 g1, hk]
        rcases List.eq_nil_or_concat O with rfl | ⟨O', s, rfl⟩
        · obtain ⟨R, r1, r2, r3, r4⟩ := ih (i + 1) _ (by omega) (by omega) (by omega) (chosen_push hB C h0 (by omega) hk' (fun s hs => by cases hs))
          refine ⟨R, r1, r2, r3, Ev.round ?_⟩
          simp only [r11_choose.j1, hw]
          refine Ev.neg (by simp) (Ev.neg (by show ¬ wrap64 ((0 : Int) - 1) ≥ 0; rw [wrap_id (by omega) (by omega)]; omega) (Ev.pos h0 (Ev.pos (by omega) (Ev.pos (by omega) (Ev.pos (by omega) (Ev.pos (by decide) r4))))))
        · rw [List.concat_eq_append] at C hlen ⊢
          have ho : O'.length ≤ 1000 := by rw [List.length_append] at hlen; omega
          have e1 : wrap64 (((O' ++ [s]).length : Int) - 1) = (O'.length : Int) := by rw [List.length_append, List.length_singleton, wrap_id (by omega) (by omega)]; omega
          have e2 : rd_T24 (O' ++ [s]) (wrap64 (((O' ++ [s]).length : Int) - 1)) = s := rd_last.resolve_right (fun k => k ho)
          have e3 := set_last O' s ⟨s.f0, rd B (i + 1)⟩ ho
          have e4 : (O' ++ [s]).length = O'.length + 1 := by simp
          rw [e1] at e2 e3
          by_cases g : s.f1 = rd B i
          · obtain ⟨R, r1, r2, r3, r4⟩ := ih (i + 1) _ (by omega) (by omega) (by omega) (chosen_grow hB C h0 (by omega) hk' g)
            refine ⟨R, r1, r2, r3, Ev.round ?_⟩
            simp only [r11_choose.j1, hw, e1, e2, e3]
            exact Ev.neg (by simp) (Ev.pos (by omega) (Ev.pos (by omega) (Ev.pos (by omega) (Ev.pos h0 (Ev.pos (by omega) (Ev.pos g (Ev.pos (by omega) (Ev.pos (by omega) r4))))))))
          · obtain ⟨R, r1, r2, r3, r4⟩ := ih (i + 1) _ (by omega) (by omega) (by omega) (chosen_push hB C h0 (by omega) hk' (fun t ht he => by
              rcases List.mem_append.1 ht with ht | ht
              · have := (List.pairwise_append.1 C.canon.apart).2.2 t ht s (List.mem_singleton.2 rfl)
                have := C.canon.pos s (by simp)
                have := C.ends s (by simp)
                omega
              · rw [List.mem_singleton.1 ht] at he; exact g he))
            refine ⟨R, r1, r2, r3, Ev.round ?_⟩
            simp only [r11_choose.j1, hw, e1, e2]
            exact Ev.neg (by simp) (Ev.pos (by omega) (Ev.pos (by omega) (Ev.pos (by omega) (Ev.pos h0 (Ev.pos (by omega) (Ev.neg g (Ev.pos (by omega) (Ev.pos (by omega) (Ev.pos (by omega) r4)))))))))
    obtain ⟨R, r1, r2, r3, r4⟩ := step
    refine ⟨R, r1, r2, r3, Ev.round ?_⟩
    simp only [r11_choose.l0, hw]
    refine Ev.pos (by omega) (Ev.pos h0 (Ev.pos (by omega) (Ev.bind (rhas_ev a _ (by omega)) (Ev.bind (rhas_ev b _ (by omega)) ?_))))
    unfold keep at r4
    rcases hop with rfl | rfl | rfl <;> cases h1 : memS a (rd B i) <;> cases h2 : memS b (rd B i) <;> rw [h1, h2] at r4 <;> exact r4
theorem canon_nil : CanonS [] := ⟨fun s hs => (by cases hs), List.Pairwise.nil⟩
theorem choose_ev (a b : List S24) {op : Int} (hop : op = 0 ∨ op = 1 ∨ op = 2) (la : a.length ≤ 100) (lb : b.length ≤ 100) : ∃ R, CanonS R ∧ (R.length ≤ 500) ∧ (∀ n, memS R n = keep op (memS a n) (memS b n)) ∧ Ev (fun k => r11_choose.f k a b op) R := by
  obtain ⟨B, hB, ea, eb, hl, ev⟩ := bounds_ev a b (by rw [List.length_append]; omega)
  rw [List.length_append] at hl
  cases B with
  | nil =>
    have na : ∀ n, memS a n = false := fun n => (memS_false _ _).2 (fun s hs => by cases (ea s hs).1)
    have nb : ∀ n, memS b n = false := fun n => (memS_false _ _).2 (fun s hs => by cases (eb s hs).1)
    refine ⟨[], canon_nil, by simp, fun n => by rw [na, nb, keep_none]; rfl, ?_⟩
    unfold r11_choose.f
    refine Ev.bind ev (Ev.round ?_)
    simp only [r11_choose.l0]
    refine Ev.neg ?_ (Ev.now _)
    show ¬ wrap64 ((0 : Int) + 1) < 0
    rw [wrap_id (by omega) (by omega)]; omega
  | cons x B =>
    obtain ⟨R, r1, r2, r3, r4⟩ := choose_any (op := op) hop hB ea eb (by omega) la lb B.length 0 [] (by omega) (by rw [List.length_cons]; omega) (by rw [List.length_cons]; omega) { canon := canon_nil, ends := fun s hs => (by cases hs), has := fun n hn => (by rw [below_all hB ea hn, below_all hB eb hn, keep_none]; rfl), len := (by simp) }
    refine ⟨R, r1, r2, r3, ?_⟩
    unfold r11_choose.f
    exact Ev.bind ev r4
theorem same_ref {X : List S24} {a b : List S24} {op : Int} (hop : op = 0 ∨ op = 1 ∨ op = 2) (la : a.length ≤ 100) (lb : b.length ≤ 100) (c : CanonS X) (hX : ∀ n, memS X n = keep op (memS a n) (memS b n)) : Ev (fun k => r11_choose.f k a b op) X := by
  obtain ⟨R, r1, _, r3, r4⟩ := choose_ev a b hop la lb
  rw [canonS_eq X R c r1 (fun n => by rw [hX, r3])]
  exact r4
theorem ref_norm (a : List S24) (la : a.length ≤ 100) : Ev (fun k => r11_Norm.f k a) (setF hasE a []) := by
  obtain ⟨_, c, B⟩ := (Box.self a la).norm (by decide)
  have := B.len
  unfold r11_Norm.f
  exact Ev.bind (same_ref (.inl rfl) la (by simp) c (fun n => by rw [B.has]; simp [keep, memS_nil])) (Ev.now _)
theorem ref_union (a b : List S24) (la : a.length ≤ 100) (lb : b.length ≤ 100) : Ev (fun k => r11_Union.f k a b) (setF hasE a b) := by
  obtain ⟨_, c, B⟩ := (Box.self a la).union (Box.self b lb) (by decide) (by decide)
  have := B.len
  unfold r11_Union.f
  exact Ev.bind (same_ref (.inl rfl) la lb c (fun n => by rw [B.has]; rfl)) (Ev.now _)
theorem ref_meet (a b : List S24) (la : a.length ≤ 100) (lb : b.length ≤ 100) : Ev (fun k => r11_Meet.f k a b) (setF hasB a b) := by
  obtain ⟨_, c, B⟩ := (Box.self a la).meet (Box.self b lb) (by decide) (by decide)
  have := B.len
  unfold r11_Meet.f
  exact Ev.bind (same_ref (.inr (.inl rfl)) la lb c (fun n => by rw [B.has]; rfl)) (Ev.now _)
theorem ref_minus (a b : List S24) (la : a.length ≤ 100) (lb : b.length ≤ 100) : Ev (fun k => r11_Minus.f k a b) (setF hasO a b) := by
  obtain ⟨_, c, B⟩ := (Box.self a la).minus (Box.self b lb) (by decide) (by decide)
  have := B.len
  unfold r11_Minus.f
  exact Ev.bind (same_ref (.inr (.inr rfl)) la lb c (fun n => by rw [B.has]; rfl)) (Ev.now _)
theorem ref_covers (l : List S24) (x y : Int) (hl : l.length ≤ 100) : Ev (fun k => r11_Covers.f k l x y) (cov l ⟨x, y⟩) := by
  unfold r11_Covers.f
  exact Ev.bind (ref_minus [⟨x, y⟩] l (by simp) hl) (Ev.now _)
theorem total_same (R : List S24) (hl : R.length ≤ 500) : ∀ (d : Nat) (i x : Int), 0 ≤ i → i ≤ R.length → (R.length : Int) - i = d → ∃ t, Ev (fun k => r11_Total.l0 k x R i) t ∧ Ev (fun k => span_Total.l0 k x R (R.length : Int) i) t := by
  intro d
  induction d with
  | zero =>
    intro i x h0 h1 hd
    refine ⟨x, Ev.round ?_, Ev.round ?_⟩
    · simp only [r11_Total.l0]; exact Ev.neg (by omega) (Ev.now _)
    · simp only [span_Total.l0]; exact Ev.neg (by omega) (Ev.now _)
  | succ d ih =>
    intro i x h0 h1 hd
    have hw : wrap64 (i + 1) = i + 1 := wrap_id (by omega) (by omega)
    obtain ⟨t, t1, t2⟩ := ih (i + 1) (wrap64 (x + wrap64 ((rd_T24 R i).f1 - (rd_T24 R i).f0))) (by omega) (by omega) (by omega)
    refine ⟨t, Ev.round ?_, Ev.round ?_⟩
    · simp only [r11_Total.l0, hw]; exact Ev.pos (by omega) (Ev.pos h0 t1)
    · simp only [span_Total.l0, hw]; exact Ev.pos (by omega) (Ev.pos h0 (Ev.pos (by omega) t2))
theorem total_two (a : List S24) (la : a.length ≤ 100) : ∃ t, Ev (fun k => r11_Total.f k a) t ∧ Ev (fun k => span_Total.f k a) t := by
  obtain ⟨e, _, B⟩ := (Box.self a la).norm (by decide)
  have := B.len
  obtain ⟨t, t1, t2⟩ := total_same (setF hasE a []) (by omega) (setF hasE a []).length 0 0 (by omega) (by omega) (by omega)
  refine ⟨t, ?_, ?_⟩
  · unfold r11_Total.f; exact Ev.bind (ref_norm a la) t1
  · unfold span_Total.f; exact Ev.bind' e t2
theorem valid_two (a : List S24) (la : a.length ≤ 100) : ∀ (d : Nat) (i : Int), 0 ≤ i → i ≤ a.length → (a.length : Int) - i = d → ∃ v, Ev (fun k => r11_Valid.l0 k a i) v ∧ Ev (fun k => span_Valid.l0 k a a (a.length : Int) i) v := by
  intro d
  induction d with
  | zero =>
    intro i h0 h1 hd
    refine ⟨true, Ev.round ?_, Ev.round ?_⟩
    · simp only [r11_Valid.l0]; exact Ev.neg (by omega) (Ev.now _)
    · simp only [span_Valid.l0]; exact Ev.neg (by omega) (Ev.now _)
  | succ d ih =>
    intro i h0 h1 hd
    have hw : wrap64 (i + 1) = i + 1 := wrap_id (by omega) (by omega)
    have hw' : wrap64 (i - 1) = i - 1 := wrap_id (by omega) (by omega)
    obtain ⟨t, t1, t2⟩ := ih (i + 1) (by omega) (by omega) (by omega)
    by_cases g1 : (rd_T24 a i).f0 ≥ (rd_T24 a i).f1
    · refine ⟨false, Ev.round ?_, Ev.round ?_⟩
      · simp only [r11_Valid.l0, hw, hw']; exact Ev.pos (by omega) (Ev.pos h0 (Ev.pos g1 (Ev.now _)))
      · simp only [span_Valid.l0, hw, hw']; exact Ev.pos (by omega) (Ev.pos h0 (Ev.pos (by omega) (Ev.pos g1 (Ev.now _))))
    · by_cases g2 : i > 0
      · by_cases g3 : (rd_T24 a (i - 1)).f1 ≥ (rd_T24 a i).f0
        · refine ⟨false, Ev.round ?_, Ev.round ?_⟩
          · simp only [r11_Valid.l0, hw, hw']; exact Ev.pos (by omega) (Ev.pos h0 (Ev.neg g1 (Ev.pos g2 (Ev.pos (by omega) (Ev.pos (by omega) (Ev.pos g3 (Ev.now _)))))))
          · simp only [span_Valid.l0, hw, hw']; exact Ev.pos (by omega) (Ev.pos h0 (Ev.pos (by omega) (Ev.neg g1 (Ev.pos g2 (Ev.pos (by omega) (Ev.pos (by omega) (Ev.pos g3 (Ev.now _))))))))
        · refine ⟨t, Ev.round ?_, Ev.round ?_⟩
          · simp only [r11_Valid.l0, hw, hw']; exact Ev.pos (by omega) (Ev.pos h0 (Ev.neg g1 (Ev.pos g2 (Ev.pos (by omega) (Ev.pos (by omega) (Ev.neg g3 t1))))))
          · simp only [span_Valid.l0, hw, hw']; exact Ev.pos (by omega) (Ev.pos h0 (Ev.pos (by omega) (Ev.neg g1 (Ev.pos g2 (Ev.pos (by omega) (Ev.pos (by omega) (Ev.neg g3 t2)))))))
      · refine ⟨t, Ev.round ?_, Ev.round ?_⟩
        · simp only [r11_Valid.l0, hw, hw']; exact Ev.pos (by omega) (Ev.pos h0 (Ev.neg g1 (Ev.neg g2 t1)))
        · simp only [span_Valid.l0, hw, hw']; exact Ev.pos (by omega) (Ev.pos h0 (Ev.pos (by omega) (Ev.neg g1 (Ev.neg g2 t2))))
theorem SpanMatchesReference : l11_SpanMatchesReference.Pure := by
  intro l0 l1 n x y l2 h0 h1 h2
  refine Ev.rounds ?_
  unfold l11_SpanMatchesReference.f
  refine Ev.bind sane_ev (Ev.bind' (short_f l0) (Ev.bind' (short_f l1) ?_))
  have A := (take_box l0).len
  have B := (take_box l1).len
  generalize l0.take 12 = a at A ⊢
  generalize l1.take 12 = b at B ⊢
  obtain ⟨v, v1, v2⟩ := valid_two a (by omega) a.length 0 (by omega) (by omega) (by omega)
  have same : ∀ X : List S24, X.length ≤ 1000 → Ev (fun k => r11_Same.f k X X) true := fun X hX => by
    have := same_ev X X (by omega)
    rwa [decide_eq_true rfl] at this
  obtain ⟨e1, _, B1⟩ := (Box.self a A).norm (by decide)
  obtain ⟨e2, _, B2⟩ := (Box.self a A).union (Box.self b B) (by decide) (by decide)
  obtain ⟨e3, _, B3⟩ := (Box.self a A).meet (Box.self b B) (by decide) (by decide)
  obtain ⟨e4, _, B4⟩ := (Box.self a A).minus (Box.self b B) (by decide) (by decide)
  have q1 := B1.len
  have q2 := B2.len
  have q3 := B3.len
  have q4 := B4.len
  refine Ev.bind v2 (Ev.bind v1 (Ev.neg (by simp) ?_))
  refine Ev.bind' e1 (Ev.bind (ref_norm a (by omega)) (Ev.bind (same _ (by omega)) (Ev.pos rfl ?_)))
  refine Ev.bind' e2 (Ev.bind (ref_union a b (by omega) (by omega)) (Ev.bind (same _ (by omega)) (Ev.pos rfl ?_)))
  refine Ev.bind' e3 (Ev.bind (ref_meet a b (by omega) (by omega)) (Ev.bind (same _ (by omega)) (Ev.pos rfl ?_)))
  refine Ev.bind' e4 (Ev.bind (ref_minus a b (by omega) (by omega)) (Ev.bind (same _ (by omega)) (Ev.round ?_)))
  simp only [l11_SpanMatchesReference.j0]
  obtain ⟨m, tm, em⟩ := made_ev l2 h2.2.2
  have M := tm.len
  obtain ⟨t, t1, t2⟩ := total_two m (by omega)
  refine Ev.neg (by simp) (Ev.bind em (Ev.bind' (has_f a n) (Ev.bind (rhas_ev a n (by omega)) (Ev.pos (by rw [beq_iff_eq]) ?_))))
  refine Ev.bind' (covers_f a x y (by omega)) (Ev.bind (ref_covers a x y (by omega)) (Ev.pos (by rw [beq_iff_eq]) ?_))
  refine Ev.bind' (covers_f m x y (by omega)) (Ev.bind (ref_covers m x y (by omega)) (Ev.pos (by rw [beq_iff_eq]) ?_))
  exact Ev.bind t2 (Ev.bind t1 (Ev.pos rfl (Ev.now _)))
end Go.Proofs.Ytebggajdojdebaa.Pure
