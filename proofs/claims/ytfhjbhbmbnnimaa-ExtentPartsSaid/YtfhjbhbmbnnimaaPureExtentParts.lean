/- The pure statement of the law ExtentParts, over numbers and lists alone: the law's printed function answers true at every input within its bounds. -/
import Derived.Test.YtfhjbhbmbnnimaaPEx15
import Derived.Test.YtfhjbhbmbnnimaaPureE
namespace Go.Proofs.Ytfhjbhbmbnnimaa.Pure
open Go.RowKit Go.Proofs.Ytfhjbhbmbnnimaa.PE Go.Proofs.YtfhjbhbmbnnimaaW.PrintWords Go.Proofs.YtfhjbhbmbnnimaaW.PrintLast Go.Proofs.YtfhjbhbmbnnimaaW.PrintMore

theorem seg_step (x : List (Int × Int)) (lo hi i : Nat) (h : i < x.length) : (x.take (min (i + 1) hi)).drop lo = (x.take (min i hi)).drop lo ++ if lo ≤ i ∧ i < hi then [x[i]] else [] := by
  by_cases h1 : i < hi
  · rw [show min (i + 1) hi = i + 1 by omega, show min i hi = i by omega, List.take_succ_eq_append_getElem h]
    by_cases h2 : lo ≤ i
    · rw [if_pos ⟨h2, h1⟩, List.drop_append_of_le_length (by rw [List.length_take]; omega)]
    · rw [if_neg (fun k => h2 k.1), List.drop_of_length_le (by simp; omega), List.drop_of_length_le (by simp; omega)]; rfl
  · rw [show min (i + 1) hi = min i hi by omega, if_neg (fun k => h1 k.2), List.append_nil]

theorem rd_toS (x : List (Int × Int)) (i : Nat) (h : i < x.length) : (⟨(rd_T32 (x.map toS) (i : Int)).f0, (rd_T32 (x.map toS) (i : Int)).f1⟩ : S32) = toS x[i] := by
  rw [rd_get32 (by simpa using h)]
  simp [toS]

theorem parts_loop {x : List (Int × Int)} (hx : MX x) (off n : Int) (ho : -9223372036854775808 ≤ off ∧ off ≤ 9223372036854775807) (hn : -9223372036854775808 ≤ n ∧ n ≤ 9223372036854775807) (b : List S58) (up : Bool) (part : List S58) (r : Bool)
    (hr : Ev (fun k => l08_ExtentParts.l0 k off n up b (x.map toS) part ((seg x off n).map toS) (x.length : Int)) r) :
    ∀ (d i : Nat), i ≤ x.length → x.length - i = d → Ev (fun k => l08_ExtentParts.l0 k off n up b (x.map toS) part (((x.take (min i (hiOf off n))).drop off.toNat).map toS) (i : Int)) r := by
  have hlen := hx.len
  intro d
  induction d with
  | zero =>
    intro i hi hd
    have e : i = x.length := by omega
    subst e
    have e2 : x.take (min x.length (hiOf off n)) = x.take (hiOf off n) := by
      by_cases h : hiOf off n ≤ x.length
      · rw [Nat.min_eq_right h]
      · rw [List.take_of_length_le (by omega), List.take_of_length_le (by omega)]
    rw [e2]
    exact hr
  | succ d ih =>
    intro i hi hd
    have hlt : i < x.length := by omega
    have ih' := ih (i + 1) (by omega) (by omega)
    rw [seg_step x _ _ i hlt] at ih'
    have hl : ((x.map toS).length : Int) = x.length := by simp
    have hacc : (((x.take (min i (hiOf off n))).drop off.toNat).map toS).length < 8796093022208 := by simp only [List.length_map, List.length_drop, List.length_take]; omega
    have hw : wrap64 ((i : Int) + 1) = ((i + 1 : Nat) : Int) := by rw [wrap_id (by omega) (by omega)]; rfl
    refine Ev.round ?_
    simp only [l08_ExtentParts.l0, hw, rd_toS x i hlt]
    refine Ev.pos (by omega) ?_
    by_cases h1 : n > 0
    · refine Ev.pos h1 ?_
      have hh : hiOf off n = (off + n).toNat := by unfold hiOf; rw [if_neg (by omega)]
      rw [hh] at ih' hacc ⊢
      by_cases h2 : (i : Int) ≥ off
      · refine Ev.pos h2 ?_
        by_cases h3 : off < 0
        · refine Ev.pos h3 ?_
          rw [wrap_id (n := off + n) (by omega) (by omega)]
          by_cases h4 : (i : Int) < off + n
          · rw [if_pos ⟨by omega, by omega⟩, List.map_append] at ih'
            exact Ev.pos h4 (Ev.pos (by omega) (Ev.pos hacc ih'))
          · rw [if_neg (fun k => h4 (by omega)), List.append_nil] at ih'
            exact Ev.neg h4 (Ev.neg (by omega) ih')
        · refine Ev.neg h3 (Ev.pos (by omega) ?_)
          rw [wrap_id (n := (i : Int) - off) (by omega) (by omega)]
          by_cases h4 : (i : Int) - off < n
          · rw [if_pos ⟨by omega, by omega⟩, List.map_append] at ih'
            exact Ev.pos h4 (Ev.pos (by omega) (Ev.pos hacc ih'))
          · rw [if_neg (fun k => h4 (by omega)), List.append_nil] at ih'
            exact Ev.neg h4 ih'
      · rw [if_neg (fun k => h2 (by omega)), List.append_nil] at ih'
        exact Ev.neg h2 ih'
    · have hh : hiOf off n = 0 := by unfold hiOf; rw [if_pos (by omega)]
      rw [hh] at ih' ⊢
      rw [if_neg (fun k => absurd k.2 (Nat.not_lt_zero _)), List.append_nil] at ih'
      exact Ev.neg h1 ih'

theorem ExtentParts : l08_ExtentParts.Pure := by
  intro l0 off n hl ho hn
  obtain ⟨ho1, ho2⟩ := bounds_i64 ho
  obtain ⟨hn1, hn2⟩ := bounds_i64 hn
  obtain ⟨x, hx, hmade⟩ := made_ev l0 hl
  have hb := hx.bx
  have hlen := hx.len
  refine Ev.rounds ?_
  unfold l08_ExtentParts.f
  refine Ev.bind' rfl ?_
  refine Ev.bind hmade (Ev.bind (each_body hb) ?_)
  refine Ev.bind' (part_eq hb off n ⟨ho1, ho2⟩ ⟨hn1, hn2⟩) ?_
  have hs := bx_seg hb off n
  refine Ev.bind (rvalid_ev (body_nf hs)) (Ev.pos rfl ?_)
  refine Ev.bind (rsize_ev (body_nf hs)) ?_
  have hsl : (seg x off n).length ≤ x.length := by unfold seg; rw [List.length_drop, List.length_take]; omega
  rw [sz_nf hs.wf, decide_eq_false (by rw [List.length_map]; omega)]
  refine Ev.round ?_
  simp only [l08_ExtentParts.j0]
  refine Ev.neg (by decide) ?_
  have h0 := parts_loop hx off n ⟨ho1, ho2⟩ ⟨hn1, hn2⟩ (nf x) true (nf (seg x off n)) true ?_ x.length 0 (by omega) (by omega)
  · simpa using h0
  refine Ev.round ?_
  simp only [l08_ExtentParts.l0, List.length_map, mn_eq, mx_eq]
  refine Ev.neg (by omega) ?_
  generalize hk : min (max off 0) (x.length : Int) = c
  have hc0 : 0 ≤ c := by omega
  have hc1 : c ≤ x.length := by omega
  have e1 : seg x 0 c = x.take c.toNat := by
    unfold seg hiOf
    rw [show (0 : Int).toNat = 0 from rfl, List.drop_zero, Int.zero_add]
    split
    · rw [show c.toNat = 0 by omega]
    · rfl
  have e2 : seg x c x.length = x.drop c.toNat := by
    unfold seg hiOf
    split
    · rw [List.length_eq_zero_iff.1 (show x.length = 0 by omega)]; simp
    · rw [List.take_of_length_le (by omega)]
  refine Ev.bind' (part_eq hb 0 c (by omega) (by omega)) (Ev.bind' (part_eq hb c x.length (by omega) (by omega)) ?_)
  rw [e1, e2]
  have b1 := bx_take hb c.toNat
  have b2 := bx_drop hb c.toNat
  refine Ev.bind (rvalid_ev (body_nf b1)) (Ev.pos rfl (Ev.bind (rvalid_ev (body_nf b2)) (Ev.pos rfl (Ev.bind (rsize_ev (body_nf b1)) ?_))))
  rw [sz_nf b1.wf]
  refine Ev.neg (by rw [List.length_take]; omega) (Ev.bind (rsize_ev (body_nf b2)) ?_)
  rw [sz_nf b2.wf, decide_eq_false (by rw [List.length_drop]; omega)]
  refine Ev.round ?_
  simp only [l08_ExtentParts.j2, Option.bind_some, List.nil_append, List.length_nil]
  refine Ev.neg (by decide) (Ev.bind (each_body hs) ?_)
  refine Ev.bind (bytes_ev _ _ (by rw [List.length_map]; omega)) ?_
  rw [decide_eq_true rfl]
  have r1 := body_nf b1
  have r2 := body_nf b2
  have l1 := body_len r1.right
  have l2 := body_len r2.right
  have s1 := r1.size
  have s2 := r2.size
  refine Ev.pos rfl (Ev.pos (by omega) (Ev.pos (by omega) ?_))
  refine Ev.bind (norm_nf (nf (x.take c.toNat) ++ nf (x.drop c.toNat)) (by rw [List.length_append]; omega) ?_ ?_ ?_) ?_
  · intro p hp
    rcases List.mem_append.1 hp with hp | hp
    · exact (r1.right p hp).wf
    · exact (r2.right p hp).wf
  · intro p hp
    rcases List.mem_append.1 hp with hp | hp
    · have := r1.right p hp; have q1 := this.a2; have q2 := this.n1; exact ⟨this.a1, by omega⟩
    · have := r2.right p hp; have q1 := this.a2; have q2 := this.n1; exact ⟨this.a1, by omega⟩
  · rw [sumP_append, sumP_each, sumP_each, each_nf _ b1.wf, each_nf _ b2.wf]
    have := b1.len; have := b2.len; omega
  rw [each_append, each_nf _ b1.wf, each_nf _ b2.wf, List.take_append_drop]
  have r0 := body_nf hb
  have := body_len r0.right
  have := r0.size
  refine Ev.bind (same_ev _ _ (by omega)) ?_
  rw [decide_eq_true rfl]
  refine Ev.pos rfl (Ev.bind (size_ev r1) ?_)
  rw [sz_nf b1.wf]
  exact Ev.pos (by rw [List.length_take]; omega) (Ev.now _)

end Go.Proofs.Ytfhjbhbmbnnimaa.Pure
