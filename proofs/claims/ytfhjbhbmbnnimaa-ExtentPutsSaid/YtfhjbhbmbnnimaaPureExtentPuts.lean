/- The pure statement of the law ExtentPuts, over numbers and lists alone: the law's printed function answers true at every input within its bounds. -/
import Derived.Test.YtfhjbhbmbnnimaaPEx16
import Derived.Test.YtfhjbhbmbnnimaaPureE
namespace Go.Proofs.Ytfhjbhbmbnnimaa.Pure
open Go.RowKit Go.Proofs.Ytfhjbhbmbnnimaa.PE Go.Proofs.YtfhjbhbmbnnimaaW.PrintWords Go.Proofs.YtfhjbhbmbnnimaaW.PrintLast Go.Proofs.YtfhjbhbmbnnimaaW.PrintMore

theorem sane_ev {x : List (Int × Int)} (h : BX x) (hl : x.length ≤ 1000) : Ev (fun k => l08_sane.f k (nf x) 0) true := by
  unfold l08_sane.f
  refine Ev.pos rfl (Ev.bind (rvalid_ev (body_nf h)) (Ev.pos rfl (Ev.bind (rsize_ev (body_nf h)) (Ev.is ?_))))
  rw [sz_nf h.wf, decide_eq_true (by omega)]

theorem ne_pair (p : S32) (a b : Int) : ((!(p.f0 == a)) || (!(p.f1 == b))) = decide (p ≠ ⟨a, b⟩) := ne_32 p ⟨a, b⟩

theorem puts_loop {x : List (Int × Int)} (o m : Nat) (id : Int) (ho : o + m ≤ 1000) (hx : x.length ≤ 72) (up : Bool) (y : List S58) (e : Int) (r : Bool)
    (hr : Ev (fun k => l08_ExtentPuts.l0 k up o id m (x.map toS) ((putX x o m id).map toS) ((putX x o m id).length : Int) y e) r) :
    ∀ (d i : Nat), i ≤ (putX x o m id).length → (putX x o m id).length - i = d → Ev (fun k => l08_ExtentPuts.l0 k up o id m (x.map toS) ((putX x o m id).map toS) (i : Int) y e) r := by
  have hlen := putX_len x o m id
  intro d
  induction d with
  | zero =>
    intro i hi hd
    rw [show i = (putX x o m id).length by omega]
    exact hr
  | succ d ih =>
    intro i hi hd
    have hlt : i < (putX x o m id).length := by omega
    have ih' := ih (i + 1) (by omega) (by omega)
    have hg := putX_get x o m id i hlt
    have hw : wrap64 ((i : Int) + 1) = ((i + 1 : Nat) : Int) := by rw [wrap_id (by omega) (by omega)]; rfl
    have hl1 : (((putX x o m id).map toS).length : Int) = (putX x o m id).length := by simp
    have hl2 : ((x.map toS).length : Int) = x.length := by simp
    have hj : ∀ b, (b = true ↔ (o ≤ i ∧ i < o + m)) → Ev (fun k => l08_ExtentPuts.j2 k up o id m (x.map toS) ((putX x o m id).map toS) (i : Int) b y e 0 0) r := by
      intro b hb
      refine Ev.round ?_
      simp only [l08_ExtentPuts.j2, hw, ne_pair, rd_map _ i hlt, decide_eq_true_eq]
      by_cases h1 : b = true
      · have h2 := hb.1 h1
        rw [if_pos h2] at hg
        refine Ev.pos h1 (Ev.pos (by omega) (Ev.pos (by omega) (Ev.neg ?_ ih')))
        rw [hg, wrap_id (by omega) (by omega)]
        exact fun k => k rfl
      · rw [if_neg (fun h => h1 (hb.2 h))] at hg
        refine Ev.neg h1 ?_
        by_cases h3 : i < x.length
        · refine Ev.pos (by omega) (Ev.pos (by omega) (Ev.pos (by omega) (Ev.neg ?_ ih')))
          rw [hg, List.getD_eq_getElem?_getD, List.getElem?_eq_getElem h3, rd_map x i h3]
          exact fun k => k rfl
        · refine Ev.neg (by omega) (Ev.pos (by omega) (Ev.pos (by omega) (Ev.neg ?_ ih')))
          rw [hg, List.getD_eq_getElem?_getD, List.getElem?_eq_none (by omega)]
          exact fun k => k rfl
    refine Ev.round ?_
    simp only [l08_ExtentPuts.l0]
    refine Ev.pos (by omega) (Ev.ite (fun h => ?_) (fun h => ?_))
    · refine hj _ ?_
      rw [wrap_id (by omega) (by omega), decide_eq_true_eq]
      omega
    · exact hj false ⟨(fun h => by cases h), fun h' => absurd h'.1 (by omega)⟩

theorem put_again {x : List (Int × Int)} (o m : Nat) (id : Int) : putX (putX x o m id) o m id = putX x o m id := by
  have hl := putX_len x o m id
  refine List.ext_getElem (by rw [putX_len, hl]; omega) fun i h1 h2 => ?_
  rw [putX_get _ _ _ _ _ h1]
  by_cases h : o ≤ i ∧ i < o + m
  · rw [if_pos h, putX_get _ _ _ _ _ h2, if_pos h]
  · rw [if_neg h, List.getD_eq_getElem?_getD, List.getElem?_eq_getElem h2]; rfl

theorem ExtentPuts : l08_ExtentPuts.Pure := by
  intro l0 w0 w1 w2 hl hw
  obtain ⟨u0, u1, u2⟩ := hw
  obtain ⟨a0, b0⟩ := bounds_u8 u0
  obtain ⟨a1, b1⟩ := bounds_u8 u1
  obtain ⟨a2, b2⟩ := bounds_u8 u2
  obtain ⟨x, hx, hmade⟩ := made_ev l0 hl
  have hb := hx.bx
  have hlen := hx.len
  have c0 := Int.tmod_eq_emod_of_nonneg (b := 100) a0
  have c1 := Int.tmod_eq_emod_of_nonneg (b := 5) a1
  have c2 := Int.tmod_eq_emod_of_nonneg (b := 20) a2
  refine Ev.rounds ?_
  unfold l08_ExtentPuts.f
  rw [wrap_id (n := w0) (by omega) (by omega), wrap_id (n := w1) (by omega) (by omega), wrap_id (n := w2) (by omega) (by omega), wrap_id (n := 1 + Int.tmod w1 5) (by omega) (by omega), wrap_id (n := 1 + Int.tmod w2 20) (by omega) (by omega)]
  obtain ⟨o, eo⟩ : ∃ o : Nat, Int.tmod w0 100 = o := ⟨(Int.tmod w0 100).toNat, by omega⟩
  obtain ⟨m, em⟩ : ∃ m : Nat, 1 + Int.tmod w2 20 = m := ⟨(1 + Int.tmod w2 20).toNat, by omega⟩
  have hid : 1 ≤ 1 + Int.tmod w1 5 ∧ 1 + Int.tmod w1 5 ≤ 5 := by omega
  have hom : 1 ≤ m ∧ o + m ≤ 200 := by omega
  rw [eo, em]
  generalize 1 + Int.tmod w1 5 = id at hid ⊢
  clear c0 c1 c2 eo em
  have hp := put_eq hb o id m (by omega) (by omega) (by omega) (by omega) (by omega)
  have hq := bx_put hb o m id (by omega) (by omega) (by omega)
  have hql := putX_len x o m id
  have hp2 := put_eq hq o id m (by omega) (by omega) (by omega) (by omega) (by omega)
  simp only [Int.toNat_natCast] at hp hp2
  rw [put_again] at hp2
  refine Ev.bind' rfl (Ev.bind hmade (Ev.bind' hp (Ev.pos rfl (Ev.bind (sane_ev hq (by omega)) ?_))))
  refine Ev.round ?_
  simp only [l08_ExtentPuts.j0, Bool.not_true]
  refine Ev.neg (by decide) (Ev.bind (each_body hb) (Ev.bind (each_body hq) (Ev.pos ?_ ?_)))
  · rw [List.length_map, List.length_map, mx_eq, wrap_id (by omega) (by omega), hql]; omega
  have h0 := puts_loop (x := x) o m id (by omega) hlen true (nf (putX x o m id)) 0 true ?_ (putX x o m id).length 0 (by omega) (by omega)
  · exact h0
  refine Ev.round ?_
  simp only [l08_ExtentPuts.l0, List.length_map]
  refine Ev.neg (by omega) (Ev.bind' hp2 ?_)
  have hn := len_nf hq
  refine Ev.bind (same_res _ _ _ _ (by dsimp only; omega)) ?_
  simp only [decide_true, Bool.true_and]
  exact Ev.pos rfl (Ev.now _)

end Go.Proofs.Ytfhjbhbmbnnimaa.Pure
