/- The pure statement of the law ExtentBytes, over numbers and lists alone: the law's printed function answers true at every input within its bounds. -/
import Derived.Test.YtfhjbhbmbnnimaaPEx30
import Derived.Test.YtfhjbhbmbnnimaaPureE
namespace Go.Proofs.Ytfhjbhbmbnnimaa.Pure
open Go.RowKit Go.Proofs.Ytfhjbhbmbnnimaa.PE Go.Proofs.YtfhjbhbmbnnimaaW.PrintWords Go.Proofs.YtfhjbhbmbnnimaaW.PrintLast Go.Proofs.YtfhjbhbmbnnimaaW.PrintMore

/-! ### the chunks' bytes -/
/-- A chunk's data. -/
def dataOf (C : List S69) (id : Int) : Option S69 := C.find? (fun s => s.f0 == id)
/-- One byte of a chunk. -/
def getB (C : List S69) (id a : Int) : Option Int := match dataOf C id with
  | none => none
  | some s => if 0 ≤ a ∧ a < (s.f1.length : Int) then some (rd s.f1 a) else none
structure Few (C : List S69) : Prop where
  len : C.length ≤ 4
  each : ∀ s ∈ C, s.f1.length ≤ 39
theorem dropC (C : List S69) (i : Int) (h0 : 0 ≤ i) (h1 : i < (C.length : Int)) : C.drop i.toNat = rd_T69 C i :: C.drop (i + 1).toNat := drop_stepI C z69 i h0 h1
theorem blob_any (C : List S69) (id : Int) (hC : C.length ≤ 4) : ∀ (d : Nat) (i : Int), 0 ≤ i → i ≤ C.length → (C.length : Int) - i = d → Ev (fun k => r08_Blob.l0 k C id i) (match dataOf (C.drop i.toNat) id with | none => ([], false) | some s => (s.f1, true)) := by
  intro d
  induction d with
  | zero =>
    intro i h0 h1 hd
    refine Ev.round ?_
    simp only [r08_Blob.l0]
    rw [List.drop_of_length_le (by omega)]
    exact Ev.neg (by omega) (Ev.now _)
  | succ d ih =>
    intro i h0 h1 hd
    have hw : wrap64 (i + 1) = i + 1 := wrap_id (by omega) (by omega)
    have ih' := ih (i + 1) (by omega) (by omega) (by omega)
    rw [dropC C i h0 (by omega)]
    unfold dataOf at ih' ⊢
    rw [List.find?_cons]
    refine Ev.round ?_
    simp only [r08_Blob.l0, hw]
    refine Ev.pos (by omega) (Ev.pos h0 (Ev.ite (fun g => ?_) (fun g => ?_)))
    · rw [show ((rd_T69 C i).f0 == id) = true from beq_iff_eq.2 g]; exact Ev.now _
    · rw [show ((rd_T69 C i).f0 == id) = false from beq_eq_false_iff_ne.2 g]; exact ih'
theorem blob_ev (C : List S69) (id : Int) (hC : C.length ≤ 4) : Ev (fun k => r08_Blob.f k C id) (match dataOf C id with | none => ([], false) | some s => (s.f1, true)) := blob_any C id hC C.length 0 (by omega) (by omega) (by omega)
theorem blobAt_none : ∀ (C : List S69) (id i : Int), dataOf C id = none → blobAt C id i = -1
  | [], _, _, _ => rfl
  | x :: C, id, i, h => by
    unfold dataOf at h
    rw [List.find?_cons] at h
    unfold blobAt
    cases hx : (x.f0 == id) with
    | true => rw [hx] at h; cases h
    | false => rw [hx] at h; rw [if_neg (by decide)]; exact blobAt_none C id (i + 1) h
theorem blobAt_some : ∀ (C : List S69) (id i : Int) (s : S69), dataOf C id = some s → ∃ j : Nat, blobAt C id i = i + j ∧ C.getD j z69 = s
  | [], _, _, _, h => by cases h
  | x :: C, id, i, s, h => by
    unfold dataOf at h
    rw [List.find?_cons] at h
    unfold blobAt
    cases hx : (x.f0 == id) with
    | true => rw [hx] at h; rw [if_pos rfl]; exact ⟨0, by simp, Option.some.inj h⟩
    | false =>
      rw [hx] at h
      rw [if_neg (by decide)]
      obtain ⟨j, h1, h2⟩ := blobAt_some C id (i + 1) s h
      exact ⟨j + 1, by rw [h1]; omega, h2⟩
theorem data_mem {C : List S69} {id : Int} {s : S69} (h : dataOf C id = some s) : s ∈ C := List.mem_of_find?_eq_some h

/-! ### what the law's loops find -/
def stp (C : List S69) (b : Int × Int) (p : List Int × Int) : List Int × Int :=
  if b.1 ≤ 0 then (p.1 ++ [0], if b.1 = -1 then 60 else p.2) else match getB C b.1 b.2 with
    | some v => (p.1 ++ [v], p.2)
    | none => (p.1, if p.2 = 0 then 90 else p.2)
def run (C : List S69) : List (Int × Int) → List Int × Int → List Int × Int
  | [], p => p
  | b :: x, p => run C x (stp C b p)
/-- The bytes, where none is lacking. -/
def goB (C : List S69) : List (Int × Int) → List Int → Option (List Int)
  | [], o => some o
  | b :: x, o => if b.1 ≤ 0 then goB C x (o ++ [0]) else match getB C b.1 b.2 with
    | some v => goB C x (o ++ [v])
    | none => none
theorem run_bad (C : List S69) : ∀ (x : List (Int × Int)) (o : List Int), (∀ b ∈ x, b.1 ≠ -1) → (run C x (o, 90)).2 = 90
  | [], _, _ => rfl
  | b :: x, o, h => by
    have hb := h b List.mem_cons_self
    have hx : ∀ c ∈ x, c.1 ≠ -1 := fun c hc => h c (List.mem_cons_of_mem _ hc)
    unfold run stp
    by_cases g : b.1 ≤ 0
    · rw [if_pos g, if_neg hb]; exact run_bad C x _ hx
    · rw [if_neg g]
      cases getB C b.1 b.2 with
      | some v => exact run_bad C x _ hx
      | none => dsimp only; rw [if_neg (by decide)]; exact run_bad C x _ hx
theorem run_good (C : List S69) : ∀ (x : List (Int × Int)) (o : List Int), (∀ b ∈ x, b.1 ≠ -1) → (match goB C x o with | some w => run C x (o, 0) = (w, 0) | none => (run C x (o, 0)).2 = 90)
  | [], _, _ => rfl
  | b :: x, o, h => by
    have hb := h b List.mem_cons_self
    have hx : ∀ c ∈ x, c.1 ≠ -1 := fun c hc => h c (List.mem_cons_of_mem _ hc)
    unfold goB run stp
    by_cases g : b.1 ≤ 0
    · rw [if_pos g, if_pos g, if_neg hb]; exact run_good C x _ hx
    · rw [if_neg g, if_neg g]
      cases getB C b.1 b.2 with
      | some v => exact run_good C x _ hx
      | none => dsimp only; rw [if_pos rfl]; exact run_bad C x _ hx
theorem goB_append (C : List S69) : ∀ (x y : List (Int × Int)) (o : List Int), goB C (x ++ y) o = (goB C x o).bind (goB C y)
  | [], _, _ => rfl
  | b :: x, y, o => by
    rw [List.cons_append]
    unfold goB
    split
    · exact goB_append C x y _
    · split
      · exact goB_append C x y _
      · rfl
theorem goB_hole (C : List S69) (i : Int) (hi : i ≤ 0) : ∀ (n : Nat) (o : List Int), goB C (bs ⟨i, 0, (n : Int)⟩) o = some (o ++ List.replicate n 0)
  | 0, o => by rw [bs_zero (by simp)]; simp [goB]
  | n + 1, o => by
    rw [bs_succ, goB_append, goB_hole C i hi n o, Option.bind_some]
    unfold goB
    rw [if_pos hi]
    unfold goB
    rw [List.append_assoc, ← List.replicate_succ']
theorem take_drop_snoc (l : List Int) (f n : Nat) (h : f + n < l.length) : (l.drop f).take (n + 1) = (l.drop f).take n ++ [rd l ((f + n : Nat) : Int)] := by
  have h1 : n < (l.drop f).length := by rw [List.length_drop]; omega
  rw [List.take_succ_eq_append_getElem h1, List.getElem_drop]
  unfold rd
  rw [Int.toNat_natCast, List.getD_eq_getElem?_getD, List.getElem?_eq_getElem h]; rfl
theorem goB_piece (C : List S69) (i f : Int) (hi : 0 < i) (hf : 0 ≤ f) (s : S69) (hs : dataOf C i = some s) : ∀ (n : Nat) (o : List Int), 1 ≤ n → goB C (bs ⟨i, f, (n : Int)⟩) o = if f + n ≤ (s.f1.length : Int) then some (o ++ (s.f1.drop f.toNat).take n) else none
  | 0, _, h => by omega
  | n + 1, o, _ => by
    have one : ∀ q : List Int, goB C [(i, if i > 0 then f + n else 0)] q = if f + (n : Int) < (s.f1.length : Int) then some (q ++ [rd s.f1 (f + n)]) else none := by
      intro q
      unfold goB getB
      rw [if_neg (by show ¬ i ≤ 0; omega)]
      dsimp only
      rw [hs, if_pos hi]
      dsimp only
      by_cases g : f + (n : Int) < (s.f1.length : Int)
      · rw [if_pos ⟨by omega, g⟩, if_pos g]; rfl
      · rw [if_neg (fun h => g h.2), if_neg g]
    rw [bs_succ, goB_append]
    by_cases hn : n = 0
    · subst hn
      rw [bs_zero (by simp)]
      show (some o).bind _ = _
      rw [Option.bind_some, one]
      by_cases g : f + ((0 : Nat) : Int) < (s.f1.length : Int)
      · rw [if_pos g, if_pos (by omega)]
        have := take_drop_snoc s.f1 f.toNat 0 (by omega)
        rw [this, show ((f.toNat + 0 : Nat) : Int) = f + ((0 : Nat) : Int) by omega]; rfl
      · rw [if_neg g, if_neg (by omega)]
    · rw [goB_piece C i f hi hf s hs n o (by omega)]
      by_cases g : f + ((n + 1 : Nat) : Int) ≤ (s.f1.length : Int)
      · rw [if_pos g, if_pos (by omega), Option.bind_some, one, if_pos (by omega), take_drop_snoc s.f1 f.toNat n (by omega), show ((f.toNat + n : Nat) : Int) = f + (n : Int) by omega, List.append_assoc]
      · rw [if_neg g]
        by_cases g' : f + (n : Int) ≤ (s.f1.length : Int)
        · rw [if_pos g', Option.bind_some, one, if_neg (by omega)]
        · rw [if_neg g']; rfl
theorem goB_none (C : List S69) (i f : Int) (hi : 0 < i) (hs : dataOf C i = none) (n : Nat) (hn : 1 ≤ n) (o : List Int) : goB C (bs ⟨i, f, (n : Int)⟩) o = none := by
  have e : bs ⟨i, f, (n : Int)⟩ = (i, if i > 0 then f + ((0 : Nat) : Int) else 0) :: (bs ⟨i, f, (n : Int)⟩).tail := by
    unfold bs
    obtain ⟨m, rfl⟩ : ∃ m, n = m + 1 := ⟨n - 1, by omega⟩
    rw [Int.toNat_natCast, List.range_succ_eq_map]; rfl
  rw [e]
  unfold goB getB
  rw [if_neg (by show ¬ i ≤ 0; omega)]
  dsimp only
  rw [hs]
theorem out_eq (C : List S69) (hC : Few C) : ∀ (b : List S58) (o : List Int), (∀ p ∈ b, Rt p) → (∀ p ∈ b, p.f0 ≠ -1) → (o.length : Int) + sz b ≤ 1048576 → bytesOut C b o = some (match goB C (each b) o with | some w => (w, 0) | none => ([], 90))
  | [], _, _, _, _ => rfl
  | p :: b, o, hr, hg, hl => by
    obtain ⟨wp, n1, n2, a1, a2, i1, i2⟩ := hr p List.mem_cons_self
    have hg1 := hg p List.mem_cons_self
    have hs := sz_pos (l := b) (fun q hq => hr q (List.mem_cons_of_mem _ hq))
    have rc := fun o h => out_eq C hC b o (fun q hq => hr q (List.mem_cons_of_mem _ hq)) (fun q hq => hg q (List.mem_cons_of_mem _ hq)) h
    unfold sz at hl
    obtain ⟨i, f, n⟩ := p
    dsimp only at wp n1 n2 a1 a2 i1 i2 hg1 hl
    obtain ⟨m, rfl⟩ : ∃ m : Nat, n = m := ⟨n.toNat, by omega⟩
    rw [each_cons, goB_append]
    unfold bytesOut
    dsimp only
    rw [if_pos ⟨a1, n1, by omega, by omega, by omega⟩]
    by_cases g : i > 0
    · rw [if_pos g]
      cases hd : dataOf C i with
      | none =>
        rw [blobAt_none C i 0 hd, if_pos (by decide), goB_none C i f g hd m (by omega)]; rfl
      | some s =>
        obtain ⟨j, e1, e2⟩ := blobAt_some C i 0 s hd
        have hsl := hC.each s (data_mem hd)
        rw [e1, if_neg (by omega), show (0 + (j : Int)).toNat = j by omega, e2, wrap_id (by omega) (by omega), goB_piece C i f g a1 s hd m o (by omega)]
        by_cases k : f + (m : Int) ≤ (s.f1.length : Int)
        · rw [if_neg (by omega), if_pos k, Option.bind_some, Int.toNat_natCast]
          refine rc _ ?_
          rw [List.length_append, List.length_take, List.length_drop]; omega
        · rw [if_pos (by omega), if_neg k]; rfl
    · rw [if_neg g]
      have hf : f = 0 := wp (by show i ≤ 0; omega)
      subst hf
      rw [goB_hole C i (by omega), Option.bind_some, Int.toNat_natCast]
      refine rc _ ?_
      rw [List.length_append, List.length_replicate]; omega

/-! ### the law -/
theorem nf_ids {x : List (Int × Int)} (h : BX x) : ((nf x).any fun p => p.f0 == -1) = true ↔ ∃ b ∈ x, b.1 = -1 := by
  have hb := body_nf h
  rw [List.any_eq_true]
  constructor
  · rintro ⟨p, hp, e⟩
    have hr := hb.right p hp
    have := mem_each hp _ (first_mem hr.n1)
    rw [each_nf x h.wf] at this
    exact ⟨_, this, beq_iff_eq.1 e⟩
  · rintro ⟨b, hx, e⟩
    rw [← each_nf x h.wf] at hx
    obtain ⟨p, hp, hq⟩ := List.mem_flatMap.1 hx
    refine ⟨p, hp, ?_⟩
    unfold bs at hq
    obtain ⟨k, _, rfl⟩ := List.mem_map.1 hq
    exact beq_iff_eq.2 e
theorem l1_any (x : List (Int × Int)) (B want : List Int) (E : Int) (hm : x.length ≤ 1048576) (R : Int → Prop) (hR : ∀ e, R e → (if e = 0 then E = 0 ∧ B = want else E = e ∧ B = [])) : ∀ (d i : Nat) (e : Int), i ≤ x.length → x.length - i = d → (R (if (x.drop i).any (fun b => b.1 == -1) = true then 60 else e)) → Ev (fun k => l08_ExtentBytes.l1 k true (x.map toS) want e (i : Int) B E) true := by
  intro d
  induction d with
  | zero =>
    intro i e h1 hd hr
    rw [List.drop_of_length_le (by omega)] at hr
    have h := hR e hr
    refine Ev.round ?_
    simp only [l08_ExtentBytes.l1, List.length_map]
    refine Ev.neg (by omega) (Ev.ite (fun g => ?_) (fun g => ?_))
    · rw [if_pos g] at h
      rw [h.2]
      exact Ev.pos h.1 (Ev.pos rfl (Ev.now _))
    · rw [if_neg g] at h
      rw [h.2]
      exact Ev.pos h.1 (Ev.pos rfl (Ev.now _))
  | succ d ih =>
    intro i e h1 hd hr
    have hi : i < x.length := by omega
    have hw : wrap64 ((i : Int) + 1) = ((i + 1 : Nat) : Int) := by rw [wrap_id (by omega) (by omega)]; omega
    rw [List.drop_eq_getElem_cons hi, List.any_cons] at hr
    refine Ev.round ?_
    simp only [l08_ExtentBytes.l1, List.length_map, hw, rd_map x i hi]
    refine Ev.pos (by omega) (Ev.pos (by omega) (Ev.ite (fun g => ?_) (fun g => ?_)))
    · refine ih (i + 1) 60 (by omega) (by omega) ?_
      rw [show (x[i].1 == -1) = true from beq_iff_eq.2 g, Bool.true_or, if_pos rfl] at hr
      split <;> exact hr
    · refine ih (i + 1) e (by omega) (by omega) ?_
      rw [show (x[i].1 == -1) = false from beq_eq_false_iff_ne.2 g, Bool.false_or] at hr
      exact hr
theorem l0_any (C : List S69) (hC : Few C) (x : List (Int × Int)) (hb : BX x) (B : List Int) (E : Int) (Z : List Int × Int) (hQ : ∀ w e, (w, e) = Z → Ev (fun k => l08_ExtentBytes.l1 k true (x.map toS) w e 0 B E) true) : ∀ (d i : Nat) (o : List Int) (e : Int), i ≤ x.length → x.length - i = d → o.length ≤ i → run C (x.drop i) (o, e) = Z → Ev (fun k => l08_ExtentBytes.l0 k true C (x.map toS) o e (i : Int) B E) true := by
  have hm := hb.len
  intro d
  induction d with
  | zero =>
    intro i o e h1 hd ho hr
    rw [List.drop_of_length_le (by omega)] at hr
    refine Ev.round ?_
    simp only [l08_ExtentBytes.l0, List.length_map]
    refine Ev.neg (by omega) ?_
    exact hQ o e hr
  | succ d ih =>
    intro i o e h1 hd ho hr
    have hi : i < x.length := by omega
    have hw : wrap64 ((i : Int) + 1) = ((i + 1 : Nat) : Int) := by rw [wrap_id (by omega) (by omega)]; omega
    have a1 := hb.a1 x[i] (List.getElem_mem _)
    rw [List.drop_eq_getElem_cons hi] at hr
    unfold run stp at hr
    dsimp only at hr
    have step : ∀ e', (x[i].1 ≤ 0 → e' = if x[i].1 = -1 then 60 else e) → (¬ x[i].1 ≤ 0 → e' = e) → Ev (fun k => l08_ExtentBytes.j1 k true C (x.map toS) o e' (i : Int) B E) true := by
      intro e' q1 q2
      refine Ev.round ?_
      simp only [l08_ExtentBytes.j1, List.length_map, hw, rd_map x i hi]
      refine Ev.pos (by omega) (Ev.pos (by omega) (Ev.ite (fun g => ?_) (fun g => ?_)))
      · replace g : x[i].1 ≤ 0 := g
        rw [if_pos g, ← q1 g] at hr
        exact Ev.pos (by omega) (ih (i + 1) _ _ (by omega) (by omega) (by rw [List.length_append, List.length_singleton]; omega) hr)
      · replace g : ¬ x[i].1 ≤ 0 := g
        rw [if_neg g] at hr
        rw [q2 g]
        have bad : getB C x[i].1 x[i].2 = none → ∀ dat, Ev (fun k => l08_ExtentBytes.j2 k true C (x.map toS) o e (i : Int) dat true B E) true := by
          intro hn dat
          rw [hn] at hr
          refine Ev.round ?_
          simp only [l08_ExtentBytes.j2, hw]
          refine Ev.pos trivial (Ev.ite (fun g => ?_) (fun g => ?_))
          · dsimp only at hr; rw [if_pos g] at hr
            exact ih (i + 1) _ _ (by omega) (by omega) (by omega) hr
          · dsimp only at hr; rw [if_neg g] at hr
            exact ih (i + 1) _ _ (by omega) (by omega) (by omega) hr
        have hB := blob_ev C x[i].1 hC.len
        refine Ev.bind hB ?_
        cases hd' : dataOf C x[i].1 with
        | none =>
          refine Ev.neg (by simp) (bad (by unfold getB; rw [hd']) _)
        | some s =>
          dsimp only
          refine Ev.pos rfl ?_
          by_cases k : (toS x[i]).f1 ≥ (s.f1.length : Int)
          · rw [decide_eq_true k]
            refine bad ?_ _
            unfold getB
            rw [hd']
            exact if_neg (fun h => by have k' : x[i].2 ≥ (s.f1.length : Int) := k; omega)
          · rw [decide_eq_false k]
            replace k : ¬ x[i].2 ≥ (s.f1.length : Int) := k
            have hv : getB C x[i].1 x[i].2 = some (rd s.f1 x[i].2) := by
              unfold getB
              rw [hd']
              exact if_pos ⟨a1, by omega⟩
            rw [hv] at hr
            refine Ev.round ?_
            simp only [l08_ExtentBytes.j2, List.length_map, hw, rd_map x i hi]
            refine Ev.neg (by simp) (Ev.pos (by omega) (Ev.pos (by omega) (Ev.pos a1 (Ev.pos (by show x[i].2 < _; omega) (Ev.pos (by omega) ?_)))))
            exact ih (i + 1) _ _ (by omega) (by omega) (by rw [List.length_append, List.length_singleton]; omega) hr
    refine Ev.round ?_
    simp only [l08_ExtentBytes.l0, List.length_map, rd_map x i hi]
    refine Ev.pos (by omega) (Ev.pos (by omega) (Ev.ite (fun g => step 60 (fun _ => (if_pos g).symm) (fun h => ?_)) (fun g => step e (fun _ => (if_neg g).symm) (fun _ => rfl))))
    exact absurd (show x[i].1 ≤ 0 by have g' : x[i].1 = -1 := g; omega) h

theorem blobs_any (a b c d : Int) : ∀ (t : Nat) (x4 : Int) (x3 : List S69), 0 ≤ x4 → x4 ≤ 4 → 4 - x4 = t → (x3.length : Int) ≤ x4 → (∀ s ∈ x3, s.f1.length ≤ 39) → ∃ C, Few C ∧ Ev (fun k => l08_blobs.l0 k x3 x4 a b c d) C := by
  intro t
  induction t with
  | zero =>
    intro x4 x3 h0 h1 hd hl he
    refine ⟨x3, ⟨by omega, he⟩, Ev.round ?_⟩
    simp only [l08_blobs.l0]
    exact Ev.neg (by omega) (Ev.now _)
  | succ t ih =>
    intro x4 x3 h0 h1 hd hl he
    have hw : wrap64 (x4 + 1) = x4 + 1 := wrap_id (by omega) (by omega)
    have inner : ∀ (t' : Nat) (x6 : Int) (x5 : List Int), 0 ≤ x6 → x6 ≤ 39 → 39 - x6 = t' → (x5.length : Int) = x6 → ∃ C, Few C ∧ Ev (fun k => l08_blobs.l1 k x3 x4 x5 x6 a b c d) C := by
      have done : ∀ (x6 : Int) (x5 : List Int), x6 ≤ 39 → (x5.length : Int) = x6 → ¬ x6 < Int.tmod (wrap64 (pick4 a b c d x4)) 40 → ∃ C, Few C ∧ Ev (fun k => l08_blobs.l1 k x3 x4 x5 x6 a b c d) C := by
        intro x6 x5 h6 h5 hn
        by_cases g : pick4 a b c d x4 < 250
        · obtain ⟨C, c1, c2⟩ := ih (x4 + 1) (x3 ++ [⟨x4 + 1, x5⟩]) (by omega) (by omega) (by omega) (by rw [List.length_append, List.length_singleton]; omega) (fun s hs => by
            rcases List.mem_append.1 hs with hs | hs
            · exact he s hs
            · rw [List.mem_singleton.1 hs]; show x5.length ≤ 39; omega)
          refine ⟨C, c1, Ev.round ?_⟩
          simp only [l08_blobs.l1, hw]
          exact Ev.pos h0 (Ev.pos (by omega) (Ev.neg hn (Ev.pos g (Ev.pos (by omega) c2))))
        · obtain ⟨C, c1, c2⟩ := ih (x4 + 1) x3 (by omega) (by omega) (by omega) (by omega) he
          refine ⟨C, c1, Ev.round ?_⟩
          simp only [l08_blobs.l1, hw]
          exact Ev.pos h0 (Ev.pos (by omega) (Ev.neg hn (Ev.neg g c2)))
      have h40 := Int.tmod_lt_of_pos (wrap64 (pick4 a b c d x4)) (show (0 : Int) < 40 by decide)
      intro t'
      induction t' with
      | zero => intro x6 x5 h0' h6 hd' h5; exact done x6 x5 h6 h5 (by omega)
      | succ t' ih' =>
        intro x6 x5 h0' h6 hd' h5
        by_cases g : x6 < Int.tmod (wrap64 (pick4 a b c d x4)) 40
        · have hw6 : wrap64 (x6 + 1) = x6 + 1 := wrap_id (by omega) (by omega)
          obtain ⟨C, c1, c2⟩ := ih' (x6 + 1) (x5 ++ [(wrap64 ((wrap64 ((wrap64 (16 * x4)) + x6)) + 1)) % 256]) (by omega) (by omega) (by omega) (by rw [List.length_append, List.length_singleton]; omega)
          refine ⟨C, c1, Ev.round ?_⟩
          simp only [l08_blobs.l1, hw6]
          exact Ev.pos h0 (Ev.pos (by omega) (Ev.pos g (Ev.pos (by omega) c2)))
        · exact done x6 x5 h6 h5 g
    obtain ⟨C, c1, c2⟩ := inner 39 0 [] (by omega) (by omega) (by omega) rfl
    refine ⟨C, c1, Ev.round ?_⟩
    simp only [l08_blobs.l0]
    exact Ev.pos (by omega) c2
theorem blobs_ev (a b c d : Int) : ∃ C, Few C ∧ Ev (fun k => l08_blobs.f k a b c d) C := blobs_any a b c d 4 0 [] (by omega) (by omega) (by omega) (by simp) (fun s hs => by cases hs)
theorem ExtentBytes : l08_ExtentBytes.Pure := by
  intro l0 p q r s h0 h1
  refine Ev.rounds ?_
  obtain ⟨x, mx, ex⟩ := made_ev l0 h0
  obtain ⟨C, hC, eC⟩ := blobs_ev p q r s
  have hx := mx.bx
  have hm := hx.len
  have hb := body_nf hx
  unfold l08_ExtentBytes.f
  refine Ev.bind' rfl (Ev.bind ex (Ev.bind eC (Ev.bind (each_body hx) ?_)))
  by_cases hg : ∃ b ∈ x, b.1 = -1
  · have er : l08_read.f (nf x) C = some ([], 60) := by
      unfold l08_read.f extent_Bytes.f
      rw [if_pos ((nf_ids hx).2 hg)]; rfl
    refine Ev.bind' er ?_
    refine l0_any C hC x hx [] 60 _ (fun w e _ => ?_) x.length 0 [] 0 (by omega) (by omega) (by simp) rfl
    refine l1_any x [] w 60 hm (fun e => e = 60) (fun e he => ?_) x.length 0 e (by omega) (by omega) ?_
    · rw [he, if_neg (by decide)]; exact ⟨rfl, rfl⟩
    · obtain ⟨b, hb1, hb2⟩ := hg
      have hz : x.any (fun b => b.1 == -1) = true := List.any_eq_true.2 ⟨b, hb1, beq_iff_eq.2 hb2⟩
      rw [List.drop_zero, if_pos hz]
  · have hn : ∀ b ∈ x, b.1 ≠ -1 := fun b hb e => hg ⟨b, hb, e⟩
    have hno : ¬ ((nf x).any fun p => p.f0 == -1) = true := fun h => hg ((nf_ids hx).1 h)
    have hz : ¬ x.any (fun b => b.1 == -1) = true := fun h => by
      obtain ⟨b, h1, h2⟩ := List.any_eq_true.1 h
      exact hn b h1 (beq_iff_eq.1 h2)
    have er : l08_read.f (nf x) C = some (match goB C x [] with | some w => (w, 0) | none => ([], 90)) := by
      unfold l08_read.f extent_Bytes.f
      rw [if_neg hno, out_eq C hC (nf x) [] hb.right (fun p hp e => hno (List.any_eq_true.2 ⟨p, hp, beq_iff_eq.2 e⟩)) (by have := hb.size; simp; omega), each_nf x hx.wf]
      cases goB C x [] <;> rfl
    have rg := run_good C x [] hn
    cases hgo : goB C x [] with
    | some v =>
      rw [hgo] at rg er
      refine Ev.bind' er ?_
      refine l0_any C hC x hx v 0 (v, 0) (fun w e he => ?_) x.length 0 [] 0 (by omega) (by omega) (by simp) rg
      obtain ⟨rfl, rfl⟩ := Prod.mk.inj he
      refine l1_any x w w 0 hm (fun e => e = 0) (fun e he => ?_) x.length 0 0 (by omega) (by omega) ?_
      · rw [he, if_pos rfl]; exact ⟨rfl, rfl⟩
      · rw [List.drop_zero, if_neg hz]
    | none =>
      rw [hgo] at rg er
      refine Ev.bind' er ?_
      refine l0_any C hC x hx [] 90 _ (fun w e he => ?_) x.length 0 [] 0 (by omega) (by omega) (by simp) rfl
      rw [List.drop_zero] at he
      have : e = 90 := by dsimp only at rg; rw [← he] at rg; exact rg
      subst this
      refine l1_any x [] w 90 hm (fun e => e = 90) (fun e he => ?_) x.length 0 90 (by omega) (by omega) ?_
      · rw [he, if_neg (by decide)]; exact ⟨rfl, rfl⟩
      · rw [List.drop_zero, if_neg hz]

end Go.Proofs.Ytfhjbhbmbnnimaa.Pure
