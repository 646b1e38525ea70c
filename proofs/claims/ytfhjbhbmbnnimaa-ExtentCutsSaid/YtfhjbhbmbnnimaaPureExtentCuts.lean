/- The pure statement of the law ExtentCuts, over numbers and lists alone: the law's printed function answers true at every input within its bounds. -/
import Derived.Test.YtfhjbhbmbnnimaaPEx17
import Derived.Test.YtfhjbhbmbnnimaaPureE
namespace Go.Proofs.Ytfhjbhbmbnnimaa.Pure
open Go.RowKit Go.Proofs.Ytfhjbhbmbnnimaa.PE Go.Proofs.YtfhjbhbmbnnimaaW.PrintWords Go.Proofs.YtfhjbhbmbnnimaaW.PrintLast Go.Proofs.YtfhjbhbmbnnimaaW.PrintMore

theorem sane_ev {x : List (Int × Int)} (h : BX x) (hl : x.length ≤ 1000) : Ev (fun k => l08_sane.f k (nf x) 0) true := by
  unfold l08_sane.f
  refine Ev.pos rfl (Ev.bind (rvalid_ev (body_nf h)) (Ev.pos rfl (Ev.bind (rsize_ev (body_nf h)) (Ev.is ?_))))
  rw [sz_nf h.wf, decide_eq_true (by omega)]

theorem ne_pair (p : S32) (a b : Int) : ((!(p.f0 == a)) || (!(p.f1 == b))) = decide (p ≠ ⟨a, b⟩) := ne_32 p ⟨a, b⟩

theorem cuts_loop {x : List (Int × Int)} (o : Nat) (a : Int) (ho : o ≤ 1000) (_hx : x.length ≤ 72) (up : Bool) (b y : List S58) (e : Int) (r : Bool)
    (hr : Ev (fun k => l08_ExtentCuts.l0 k a up b (x.map toS) ((cutX x o).map toS) ((cutX x o).length : Int) y e) r) :
    ∀ (d i : Nat), i ≤ (cutX x o).length → (cutX x o).length - i = d → Ev (fun k => l08_ExtentCuts.l0 k a up b (x.map toS) ((cutX x o).map toS) (i : Int) y e) r := by
  have hlen := cutX_len x o
  intro d
  induction d with
  | zero =>
    intro i hi hd
    rw [show i = (cutX x o).length by omega]
    exact hr
  | succ d ih =>
    intro i hi hd
    have hlt : i < (cutX x o).length := by omega
    have ih' := ih (i + 1) (by omega) (by omega)
    have hg := cutX_get x o i hlt
    have hw : wrap64 ((i : Int) + 1) = ((i + 1 : Nat) : Int) := by rw [wrap_id (by omega) (by omega)]; rfl
    have hl1 : (((cutX x o).map toS).length : Int) = (cutX x o).length := by simp
    have hl2 : ((x.map toS).length : Int) = x.length := by simp
    refine Ev.round ?_
    simp only [l08_ExtentCuts.l0, hw, ne_pair, rd_map _ i hlt, decide_eq_true_eq]
    refine Ev.pos (by omega) ?_
    by_cases h3 : i < x.length
    · refine Ev.pos (by omega) (Ev.pos (by omega) (Ev.neg ?_ ih'))
      rw [hg, List.getD_eq_getElem?_getD, List.getElem?_eq_getElem h3, rd_map x i h3]
      exact fun k => k rfl
    · refine Ev.neg (by omega) (Ev.pos (by omega) (Ev.neg ?_ ih'))
      rw [hg, List.getD_eq_getElem?_getD, List.getElem?_eq_none (by omega)]
      exact fun k => k rfl

theorem cut_back {x : List (Int × Int)} (o : Nat) (h : x.length ≤ o) : cutX (cutX x o) x.length = x := by
  refine List.ext_getElem (by rw [cutX_len]) fun i h1 h2 => ?_
  rw [cutX_get _ _ _ h1, List.getD_eq_getElem?_getD, List.getElem?_eq_getElem (by rw [cutX_len]; omega)]
  simp only [Option.getD_some]
  rw [cutX_get, List.getD_eq_getElem?_getD, List.getElem?_eq_getElem h2]; rfl

theorem ExtentCuts : l08_ExtentCuts.Pure := by
  intro l0 n hl hn
  obtain ⟨a0, b0⟩ := bounds_u8 hn
  obtain ⟨x, hx, hmade⟩ := made_ev l0 hl
  have hb := hx.bx
  have hlen := hx.len
  obtain ⟨o, rfl⟩ : ∃ o : Nat, n = o := ⟨n.toNat, by omega⟩
  refine Ev.rounds ?_
  have hw := wrap_id (n := (o : Int)) (by omega) (by omega)
  unfold l08_ExtentCuts.f
  rw [hw]
  have hp := cut_eq hb o (by omega) (by omega)
  simp only [Int.toNat_natCast] at hp
  have hq := bx_cut hb o (by omega)
  have hql := cutX_len x o
  refine Ev.bind' rfl (Ev.bind hmade (Ev.bind' hp (Ev.pos rfl (Ev.bind (sane_ev hq (by omega)) ?_))))
  refine Ev.round ?_
  simp only [l08_ExtentCuts.j0, Bool.not_true, hw]
  refine Ev.neg (by decide) (Ev.bind (each_body hb) (Ev.bind (each_body hq) (Ev.pos ?_ ?_)))
  · rw [List.length_map, hql]
  have h0 := cuts_loop (x := x) o o (by omega) hlen true (nf x) (nf (cutX x o)) 0 true ?_ (cutX x o).length 0 (by omega) (by omega)
  · exact h0
  refine Ev.round ?_
  simp only [l08_ExtentCuts.l0, List.length_map, hw]
  have hp2 := cut_eq hq x.length (by omega) (by omega)
  simp only [Int.toNat_natCast] at hp2
  refine Ev.neg (by omega) (Ev.bind' hp2 (Ev.ite (fun _ => Ev.now _) (fun h => ?_)))
  rw [cut_back o (by omega)]
  have hn := len_nf hb
  refine Ev.bind (same_res _ _ _ _ (by dsimp only; omega)) ?_
  simp only [decide_true, Bool.true_and]
  exact Ev.pos rfl (Ev.now _)

end Go.Proofs.Ytfhjbhbmbnnimaa.Pure
