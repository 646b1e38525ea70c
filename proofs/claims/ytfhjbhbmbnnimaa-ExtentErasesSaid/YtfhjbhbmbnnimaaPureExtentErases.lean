/- The pure statement of the law ExtentErases, over numbers and lists alone: the law's printed function answers true at every input within its bounds. -/
import Derived.Test.YtfhjbhbmbnnimaaPEx31
import Derived.Test.YtfhjbhbmbnnimaaPureE
namespace Go.Proofs.Ytfhjbhbmbnnimaa.Pure
open Go.RowKit Go.Proofs.Ytfhjbhbmbnnimaa.PE Go.Proofs.YtfhjbhbmbnnimaaW.PrintWords Go.Proofs.YtfhjbhbmbnnimaaW.PrintLast Go.Proofs.YtfhjbhbmbnnimaaW.PrintMore

/-! ### erasing, byte for byte -/
def er (ids : List Int) (b : Int × Int) : Int × Int := if b.1 > 0 ∧ ids.contains b.1 = true then (-1, 0) else b
def erP (ids : List Int) (p : S58) : S58 := if p.f0 > 0 ∧ ids.contains p.f0 = true then ⟨-1, 0, p.f2⟩ else p
theorem bs_er (ids : List Int) (p : S58) : bs (erP ids p) = (bs p).map (er ids) := by
  unfold bs erP
  by_cases h : p.f0 > 0 ∧ ids.contains p.f0 = true
  · rw [if_pos h, List.map_map]
    refine List.map_congr_left (fun k _ => ?_)
    show ((-1 : Int), if (-1 : Int) > 0 then _ else (0 : Int)) = er ids (p.f0, _)
    unfold er
    rw [if_neg (by decide), if_pos h]
  · rw [if_neg h, List.map_map]
    refine List.map_congr_left (fun k _ => ?_)
    show _ = er ids (p.f0, _)
    unfold er
    rw [if_neg h]
theorem each_er (ids : List Int) : ∀ l : List S58, each (l.map (erP ids)) = (each l).map (er ids)
  | [] => rfl
  | p :: l => by rw [List.map_cons, each_cons, each_cons, each_er ids l, bs_er, List.map_append]
theorem erase_joins (ids : List Int) : ∀ (l o : List S58), l.foldlM (eraseStep ids) o = joinAll o (l.map (erP ids))
  | [], _ => rfl
  | p :: l, o => by
    have e : eraseStep ids o p = extent_join.f o (erP ids p).f0 (erP ids p).f1 (erP ids p).f2 := by
      unfold eraseStep erP
      by_cases h : p.f0 > 0 ∧ ids.contains p.f0 = true
      · rw [if_pos h, if_pos h]
      · rw [if_neg h, if_neg h]
    unfold joinAll
    rw [List.foldlM_cons, List.map_cons, List.foldlM_cons, e]
    cases extent_join.f o (erP ids p).f0 (erP ids p).f1 (erP ids p).f2 with
    | none => rfl
    | some q => exact erase_joins ids l q
theorem er_cases (ids : List Int) (b : Int × Int) : (er ids b = (-1, 0) ∧ b.1 > 0 ∧ ids.contains b.1 = true) ∨ (er ids b = b ∧ ¬ (b.1 > 0 ∧ ids.contains b.1 = true)) := by
  unfold er
  by_cases h : b.1 > 0 ∧ ids.contains b.1 = true
  · exact .inl ⟨if_pos h, h⟩
  · exact .inr ⟨if_neg h, h⟩
theorem bx_er (ids : List Int) {x : List (Int × Int)} (h : BX x) : BX (x.map (er ids)) := by
  have key : ∀ b ∈ x.map (er ids), b = (-1, 0) ∨ b ∈ x := by
    intro b hb
    obtain ⟨c, hc, rfl⟩ := List.mem_map.1 hb
    rcases er_cases ids c with ⟨e, _⟩ | ⟨e, _⟩
    · exact .inl e
    · rw [e]; exact .inr hc
  refine ⟨fun b hb => ?_, fun b hb => ?_, fun b hb => ?_, fun b hb => ?_, fun b hb => ?_, by rw [List.length_map]; exact h.len⟩ <;> rcases key b hb with rfl | hb
  · intro _; rfl
  · exact h.wf b hb
  · decide
  · exact h.i1 b hb
  · decide
  · exact h.i2 b hb
  · decide
  · exact h.a1 b hb
  · decide
  · exact h.a2 b hb
theorem erase_eq (ids : List Int) {x : List (Int × Int)} (h : BX x) : extent_Erase.f (nf x) ids = some (nf (x.map (er ids))) := by
  have hb := body_nf h
  unfold extent_Erase.f
  rw [erase_joins]
  have wfE : ∀ p ∈ (nf x).map (erP ids), wf p ∧ 0 ≤ p.f1 ∧ p.f1 ≤ 4194304 := by
    intro p hp
    obtain ⟨q, hq, rfl⟩ := List.mem_map.1 hp
    obtain ⟨w1, n1, n2, a1, a2, _, _⟩ := hb.right q hq
    unfold erP
    by_cases g : q.f0 > 0 ∧ ids.contains q.f0 = true
    · rw [if_pos g]; exact ⟨fun _ => rfl, Int.le_refl _, by show (0 : Int) ≤ 4194304; omega⟩
    · rw [if_neg g]; exact ⟨w1, a1, by omega⟩
  have hE : each ((nf x).map (erP ids)) = x.map (er ids) := by rw [each_er, each_nf x h.wf]
  have := joinAll_nf ((nf x).map (erP ids)) (fun p hp => (wfE p hp).1) (fun p hp => (wfE p hp).2) (by rw [sumP_each, hE, List.length_map]; have := h.len; omega)
  rw [hE] at this
  exact this
theorem er_twice (ids : List Int) (x : List (Int × Int)) : (x.map (er ids)).map (er ids) = x.map (er ids) := by
  rw [List.map_map]
  refine List.map_congr_left (fun b _ => ?_)
  show er ids (er ids b) = er ids b
  rcases er_cases ids b with ⟨e, _⟩ | ⟨e, _⟩
  · rw [e]; unfold er; rw [if_neg (by intro h; have h1 : (-1 : Int) > 0 := h.1; omega)]
  · rw [e, e]

/-! ### what is used -/
theorem used_mem {x : List (Int × Int)} (h : BX x) (i : Int) : i ∈ usedIds (nf x) ↔ 0 < i ∧ ∃ b ∈ x, b.1 = i := by
  have hb := body_nf h
  unfold usedIds
  rw [List.mem_map]
  constructor
  · rintro ⟨p, hp, rfl⟩
    obtain ⟨hp1, hp2⟩ := List.mem_filter.1 hp
    have hr := hb.right p hp1
    have := mem_each hp1 _ (first_mem hr.n1)
    rw [each_nf x h.wf] at this
    exact ⟨of_decide_eq_true hp2, _, this, rfl⟩
  · rintro ⟨h0, b, hx, rfl⟩
    rw [← each_nf x h.wf] at hx
    obtain ⟨p, hp, hq⟩ := List.mem_flatMap.1 hx
    unfold bs at hq
    obtain ⟨k, _, rfl⟩ := List.mem_map.1 hq
    exact ⟨p, List.mem_filter.2 ⟨hp, decide_eq_true h0⟩, rfl⟩
def usedL (l : List S58) : List Int := Go.Lib.compact ((usedIds l).mergeSort fun x y => decide (x ≤ y))
theorem usedL_mem {x : List (Int × Int)} (h : BX x) (i : Int) : i ∈ usedL (nf x) ↔ 0 < i ∧ ∃ b ∈ x, b.1 = i := by
  unfold usedL
  rw [compact_mem, List.mem_mergeSort, used_mem h]
theorem compact_strict (l : List Int) (hs : l.Pairwise (fun a b => a ≤ b)) : ∀ m, m ≤ l.length → (Go.Lib.compactUpTo l.toArray m).Pairwise (fun a b => a < b)
  | 0, _ => by simp [Go.Lib.compactUpTo]
  | m + 1, h => by
    have hm : m < l.length := by omega
    have e : l.toArray[m]! = l[m] := by rw [getElem!_pos l.toArray m (by simpa using hm)]; simp
    rw [Go.Lib.compactUpTo_succ, e]
    by_cases hk : Go.Lib.keeps l.toArray m = true
    · rw [if_pos hk, List.pairwise_append]
      refine ⟨compact_strict l hs m (by omega), List.pairwise_singleton _ _, fun a ha b hb => ?_⟩
      rw [List.mem_singleton.1 hb]
      have ha' := (compactUpTo_mem l m (by omega) a).1 ha
      obtain ⟨j, hj, rfl⟩ := List.mem_take_iff_getElem.1 ha'
      have hj' : j < m := by omega
      have hk' : m = 0 ∨ l.toArray[m]! ≠ l.toArray[m - 1]! := of_decide_eq_true hk
      have hne : l.toArray[m]! ≠ l.toArray[m - 1]! := hk'.resolve_left (by omega)
      rw [e, getElem!_pos l.toArray (m - 1) (by simp; omega)] at hne
      have q := List.pairwise_iff_getElem.1 hs
      have q1 := q (m - 1) m (by omega) hm (by omega)
      have q2 : l[j] ≤ l[m - 1] := by
        by_cases g : j = m - 1
        · subst g; exact Int.le_refl _
        · exact q j (m - 1) (by omega) (by omega) (by omega)
      have hne' : l[m] ≠ l[m - 1] := by simpa using hne
      omega
    · rw [if_neg hk, List.append_nil]; exact compact_strict l hs m (by omega)
theorem usedL_strict (l : List S58) : (usedL l).Pairwise (fun a b => a < b) := by
  unfold usedL Go.Lib.compact
  refine compact_strict _ ?_ _ (Nat.le_refl _)
  have := List.pairwise_mergeSort (le := fun x y : Int => decide (x ≤ y)) (fun a b c h1 h2 => by simp at *; omega) (fun a b => by simp; omega) (usedIds l)
  exact this.imp (fun h => of_decide_eq_true h)
theorem usedL_len (l : List S58) : (usedL l).length ≤ l.length := by
  unfold usedL
  have h1 := Go.Lib.compact_length_le ((usedIds l).mergeSort fun x y => decide (x ≤ y))
  rw [List.length_mergeSort] at h1
  exact Nat.le_trans h1 (usedIds_len l)
theorem used_f {x : List (Int × Int)} (h : BX x) : extent_Used.f (nf x) = some (usedL (nf x)) := by
  have := len_nf h
  exact if_pos (by omega)
theorem dropI' (l : List Int) (i : Int) (h0 : 0 ≤ i) (h1 : i < (l.length : Int)) : l.drop i.toNat = rd l i :: l.drop (i + 1).toNat := drop_stepI l 0 i h0 h1
theorem has_any (l : List Int) (v : Int) (hm : l.length ≤ 4611686018427387904) : ∀ (d : Nat) (i : Int), 0 ≤ i → i ≤ l.length → (l.length : Int) - i = d → Ev (fun k => r08_Has.l0 k l v i) (decide (v ∈ l.drop i.toNat)) := by
  intro d
  induction d with
  | zero =>
    intro i h0 h1 hd
    refine Ev.round ?_
    simp only [r08_Has.l0]
    rw [List.drop_of_length_le (by omega), decide_eq_false (by simp)]
    exact Ev.neg (by omega) (Ev.now _)
  | succ d ih =>
    intro i h0 h1 hd
    have hw : wrap64 (i + 1) = i + 1 := wrap_id (by omega) (by omega)
    have ih' := ih (i + 1) (by omega) (by omega) (by omega)
    rw [dropI' l i h0 (by omega)]
    refine Ev.round ?_
    simp only [r08_Has.l0, hw]
    refine Ev.pos (by omega) (Ev.pos h0 (Ev.ite (fun g => ?_) (fun g => ?_)))
    · rw [decide_eq_true (by rw [g]; exact List.mem_cons_self)]; exact Ev.now _
    · rw [show decide (v ∈ rd l i :: l.drop (i + 1).toNat) = decide (v ∈ l.drop (i + 1).toNat) from decide_eq_decide.2 ⟨fun h => (List.mem_cons.1 h).resolve_left (fun e => g e.symm), fun h => List.mem_cons_of_mem _ h⟩]
      exact ih'
theorem has_ev (l : List Int) (v : Int) (hm : l.length ≤ 4611686018427387904) : Ev (fun k => r08_Has.f k l v) (decide (v ∈ l)) := has_any l v hm l.length 0 (by omega) (by omega) (by omega)

/-! ### the law -/
theorem last_ev {x : List (Int × Int)} (hx : BX x) (ids : List Int) (he : x.map (er ids) = x) (L : List Int) (hL : ∀ v ∈ L, 1 ≤ v ∧ v ≤ 4) (hs : L.Pairwise (fun a b => a < b)) (hl : L.length ≤ 1048576) : ∀ (d : Nat) (i : Int), 0 ≤ i → i ≤ L.length → (L.length : Int) - i = d → Ev (fun k => l08_ExtentErases.l2 k ids true (nf x) L i) true := by
  intro d
  induction d with
  | zero =>
    intro i h0 h1 hd
    have hE := erase_eq ids hx
    rw [he] at hE
    have hS := same_ev (nf x) (nf x) (by have := len_nf hx; omega)
    rw [decide_eq_true rfl] at hS
    refine Ev.round ?_
    simp only [l08_ExtentErases.l2]
    exact Ev.neg (by omega) (Ev.bind' hE (Ev.bind hS (Ev.pos rfl (Ev.now _))))
  | succ d ih =>
    intro i h0 h1 hd
    have hw : wrap64 (i + 1) = i + 1 := wrap_id (by omega) (by omega)
    have hw' : wrap64 (i - 1) = i - 1 := wrap_id (by omega) (by omega)
    have ih' := ih (i + 1) (by omega) (by omega) (by omega)
    have get : ∀ j : Int, 0 ≤ j → j < (L.length : Int) → ∃ h : j.toNat < L.length, rd L j = L[j.toNat] := fun j g0 g1 => ⟨by omega, by unfold rd; rw [List.getD_eq_getElem?_getD, List.getElem?_eq_getElem (by omega)]; rfl⟩
    obtain ⟨g1, e1⟩ := get i h0 (by omega)
    have hv := hL (rd L i) (by rw [e1]; exact List.getElem_mem _)
    refine Ev.round ?_
    simp only [l08_ExtentErases.l2, hw, hw']
    refine Ev.pos (by omega) (Ev.pos h0 (Ev.neg (by omega) (Ev.neg (by omega) (Ev.ite (fun g => ?_) (fun _ => ih')))))
    obtain ⟨g2, e2⟩ := get (i - 1) (by omega) (by omega)
    have hlt := List.pairwise_iff_getElem.1 hs (i - 1).toNat i.toNat g2 g1 (by omega)
    rw [← e1, ← e2] at hlt
    exact Ev.pos (by omega) (Ev.pos (by omega) (Ev.neg (by omega) ih'))
theorem ids_ev {x : List (Int × Int)} (hx : BX x) (ids : List Int) (hi : ids.length ≤ 6) (hL : ∀ v ∈ usedL (nf (x.map (er ids))), 1 ≤ v ∧ v ≤ 4) : ∀ (d : Nat) (i : Int), 1 ≤ i → i ≤ 6 → 6 - i = d → Ev (fun k => l08_ExtentErases.l1 k ids true (nf (x.map (er ids))) (usedL (nf x)) (usedL (nf (x.map (er ids)))) i) true := by
  have hy := bx_er ids hx
  have n1 := len_nf hx
  have n2 := len_nf hy
  have u1 := usedL_len (nf x)
  have u2 := usedL_len (nf (x.map (er ids)))
  intro d
  induction d with
  | zero =>
    intro i h0 h1 hd
    refine Ev.round ?_
    simp only [l08_ExtentErases.l1]
    exact Ev.neg (by omega) (last_ev hy ids (er_twice ids x) _ hL (usedL_strict _) (by omega) (usedL (nf (x.map (er ids)))).length 0 (by omega) (by omega) (by omega))
  | succ d ih =>
    intro i h0 h1 hd
    have hw : wrap64 (i + 1) = i + 1 := wrap_id (by omega) (by omega)
    have ih' := ih (i + 1) (by omega) (by omega) (by omega)
    have key : i ∈ usedL (nf (x.map (er ids))) ↔ i ∈ usedL (nf x) ∧ ¬ i ∈ ids := by
      rw [usedL_mem hy, usedL_mem hx]
      constructor
      · rintro ⟨p, b, hb, e⟩
        obtain ⟨c, hc, rfl⟩ := List.mem_map.1 hb
        rcases er_cases ids c with ⟨e1, _⟩ | ⟨e1, e2⟩
        · rw [e1] at e; dsimp only at e; omega
        · rw [e1] at e
          refine ⟨⟨p, c, hc, e⟩, fun hin => e2 ⟨by omega, ?_⟩⟩
          rw [e]; exact List.contains_iff_mem.2 hin
      · rintro ⟨⟨p, c, hc, e⟩, hn⟩
        refine ⟨p, er ids c, List.mem_map_of_mem hc, ?_⟩
        rcases er_cases ids c with ⟨_, _, e2⟩ | ⟨e1, _⟩
        · rw [e] at e2; exact absurd (List.contains_iff_mem.1 e2) hn
        · rw [e1]; exact e
    refine Ev.round ?_
    simp only [l08_ExtentErases.l1, hw]
    refine Ev.pos (by omega) (Ev.bind (has_ev _ i (by omega)) (Ev.bind (has_ev _ i (by omega)) (Ev.ite (fun g => ?_) (fun g => ?_))))
    · rw [decide_eq_true_eq] at g
      refine Ev.bind (has_ev ids i (by omega)) (Ev.neg ?_ ih')
      rw [show decide (i ∈ usedL (nf (x.map (er ids)))) = !decide (i ∈ ids) from ?_]
      · simp
      · rw [Bool.eq_iff_iff, decide_eq_true_eq, key]; simp [g]
    · rw [decide_eq_true_eq] at g
      refine Ev.neg ?_ ih'
      rw [decide_eq_false (fun h => g (key.1 h).1)]; decide
theorem bytes_ev' {x : List (Int × Int)} (hx : BX x) (ids : List Int) (hi : ids.length ≤ 6) (hL : ∀ v ∈ usedL (nf (x.map (er ids))), 1 ≤ v ∧ v ≤ 4) : ∀ (d i : Nat), i ≤ x.length → x.length - i = d → Ev (fun k => l08_ExtentErases.l0 k ids true (nf x) (nf (x.map (er ids))) (x.map toS) ((x.map (er ids)).map toS) (i : Int)) true := by
  have hm := hx.len
  have hy := bx_er ids hx
  intro d
  induction d with
  | zero =>
    intro i h1 hd
    refine Ev.round ?_
    simp only [l08_ExtentErases.l0, List.length_map]
    exact Ev.neg (by omega) (Ev.bind' (used_f hx) (Ev.bind' (used_f hy) (ids_ev hx ids hi hL 5 1 (by omega) (by omega) (by omega))))
  | succ d ih =>
    intro i h1 hd
    have hi' : i < x.length := by omega
    have hw : wrap64 ((i : Int) + 1) = ((i + 1 : Nat) : Int) := by rw [wrap_id (by omega) (by omega)]; omega
    have ih' := ih (i + 1) (by omega) (by omega)
    have hr2 : rd_T32 ((x.map (er ids)).map toS) (i : Int) = toS (er ids x[i]) := by
      rw [rd_map (x.map (er ids)) i (by rw [List.length_map]; exact hi'), List.getElem_map]
    have yes : er ids x[i] = (-1, 0) → Ev (fun k => l08_ExtentErases.j2 k ids true (nf x) (nf (x.map (er ids))) (x.map toS) ((x.map (er ids)).map toS) (i : Int) true (toS x[i]).f0 (toS x[i]).f1) true := by
      intro e
      refine Ev.round ?_
      simp only [l08_ExtentErases.j2, List.length_map, hw, hr2, e]
      exact Ev.pos trivial (Ev.pos (by omega) (Ev.pos (by omega) (Ev.neg (by decide) ih')))
    have no : er ids x[i] = x[i] → Ev (fun k => l08_ExtentErases.j2 k ids true (nf x) (nf (x.map (er ids))) (x.map toS) ((x.map (er ids)).map toS) (i : Int) false (toS x[i]).f0 (toS x[i]).f1) true := by
      intro e
      refine Ev.round ?_
      simp only [l08_ExtentErases.j2, List.length_map, hw, hr2, e]
      exact Ev.neg (by simp) (Ev.pos (by omega) (Ev.pos (by omega) (Ev.neg (by simp) ih')))
    refine Ev.round ?_
    simp only [l08_ExtentErases.l0, List.length_map, rd_map x i hi']
    refine Ev.pos (by omega) (Ev.pos (by omega) (Ev.ite (fun g => ?_) (fun g => ?_)))
    · replace g : x[i].1 > 0 := g
      refine Ev.bind (has_ev ids _ (by omega)) ?_
      by_cases hin : (toS x[i]).f0 ∈ ids
      · rw [decide_eq_true hin]
        exact yes (if_pos ⟨g, List.contains_iff_mem.2 hin⟩)
      · rw [decide_eq_false hin]
        exact no (if_neg (fun h => hin (List.contains_iff_mem.1 h.2)))
    · replace g : ¬ x[i].1 > 0 := g
      exact no (if_neg (fun h => g h.1))
theorem ExtentErases : l08_ExtentErases.Pure := by
  intro l0 ids h0 h1
  refine Ev.rounds ?_
  obtain ⟨x, mx, ex⟩ := made_ev l0 h0
  have hx := mx.bx
  have hy := bx_er ids hx
  have hl := mx.len
  have hb := body_nf hy
  unfold l08_ExtentErases.f
  refine Ev.bind' rfl (Ev.ite (fun _ => Ev.now _) (fun hi => ?_))
  refine Ev.bind ex (Ev.bind' (erase_eq ids hx) (Ev.bind (rvalid_ev hb) (Ev.pos rfl (Ev.bind (rsize_ev hb) (Ev.round ?_)))))
  have hz : sz (nf (x.map (er ids))) ≤ 72 := by rw [sz_nf hy.wf, List.length_map]; omega
  have hL : ∀ v ∈ usedL (nf (x.map (er ids))), 1 ≤ v ∧ v ≤ 4 := by
    intro v hv
    obtain ⟨p, b, hb', e⟩ := (usedL_mem hy v).1 hv
    obtain ⟨c, hc, rfl⟩ := List.mem_map.1 hb'
    rcases er_cases ids c with ⟨e1, _⟩ | ⟨e1, _⟩
    · rw [e1] at e; dsimp only at e; omega
    · rw [e1] at e; have := mx.i4 c hc; omega
  simp only [l08_ExtentErases.j0]
  refine Ev.neg (by rw [decide_eq_true_eq]; omega) (Ev.bind (each_body hx) (Ev.bind (each_body hy) (Ev.pos (by simp) ?_)))
  exact bytes_ev' hx ids (by omega) hL x.length 0 (by omega) (by omega)

end Go.Proofs.Ytfhjbhbmbnnimaa.Pure
