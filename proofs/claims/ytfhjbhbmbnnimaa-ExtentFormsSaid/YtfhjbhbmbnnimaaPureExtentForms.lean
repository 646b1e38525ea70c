/- The pure statement of the law ExtentForms, over numbers and lists alone: the law's printed function answers true at every input within its bounds. -/
import Derived.Test.YtfhjbhbmbnnimaaPEx19
import Derived.Test.YtfhjbhbmbnnimaaPureE
namespace Go.Proofs.Ytfhjbhbmbnnimaa.Pure
open Go.RowKit Go.Proofs.Ytfhjbhbmbnnimaa.PE Go.Proofs.YtfhjbhbmbnnimaaW.PrintWords Go.Proofs.YtfhjbhbmbnnimaaW.PrintLast Go.Proofs.YtfhjbhbmbnnimaaW.PrintMore

theorem sane_ev {x : List (Int × Int)} (h : BX x) (hl : x.length ≤ 1000) : Ev (fun k => l08_sane.f k (nf x) 0) true := by
  unfold l08_sane.f
  refine Ev.pos rfl (Ev.bind (rvalid_ev (body_nf h)) (Ev.pos rfl (Ev.bind (rsize_ev (body_nf h)) (Ev.is ?_))))
  rw [sz_nf h.wf, decide_eq_true (by omega)]

theorem psame_any (a b : List S58) (hl : a.length = b.length) (hm : a.length ≤ 4611686018427387904) : ∀ (d i : Nat), i ≤ a.length → a.length - i = d → Ev (fun k => api_Piece_43.l0 k a b (a.length : Int) (i : Int)) (decide (a.drop i = b.drop i)) := by
  intro d
  induction d with
  | zero =>
    intro i h1 hd
    refine Ev.round ?_
    simp only [api_Piece_43.l0]
    refine Ev.neg (by omega) ?_
    rw [List.drop_of_length_le (by omega), List.drop_of_length_le (by omega)]
    exact Ev.now _
  | succ d ih =>
    intro i h1 hd
    refine Ev.round ?_
    simp only [api_Piece_43.l0, ne_58, decide_eq_true_eq]
    rw [rd_get (by omega), rd_get (l := b) (by omega), wrap_id (by omega) (by omega), drop_eq_iff (a := a) (by omega) (by omega)]
    refine Ev.pos (by omega) (Ev.pos (by omega) (Ev.pos (by omega) (Ev.pos (by omega) ?_)))
    by_cases h : a[i] ≠ b[i]
    · rw [if_pos h]; exact Ev.pos h (Ev.now _)
    · rw [if_neg h]; exact Ev.neg h (ih (i + 1) (by omega) (by omega))
theorem psame_ev (a b : List S58) (hm : a.length ≤ 4611686018427387904) : Ev (fun k => extent_Same.f k a b) (decide (a = b)) := by
  unfold extent_Same.f api_Piece_43.f
  have key : Ev (fun k => if (a.length : Int) = (b.length : Int) then api_Piece_43.l0 k a b (a.length : Int) 0 else some false) (decide (a = b)) := by
    by_cases h : a.length = b.length
    · refine Ev.pos (by omega) ?_
      exact psame_any a b h hm a.length 0 (by omega) (by omega)
    · refine Ev.neg (by omega) ?_
      rw [decide_eq_false (fun e => h (by rw [e]))]
      exact Ev.now _
  exact Ev.bind key (Ev.now _)

theorem bx_nil : BX [] := ⟨(fun b hb => by cases hb), (fun b hb => by cases hb), (fun b hb => by cases hb), (fun b hb => by cases hb), (fun b hb => by cases hb), by simp⟩
theorem whole_nf (n : Nat) (h : 1 ≤ n) : nf ((List.range n).map (fun (k : Nat) => ((9 : Int), (k : Int)))) = [⟨9, 0, n⟩] := by
  have h1 : Canon ([(⟨9, 0, n⟩ : S58)].reverse) := canon_one (fun h => by dsimp only at h; omega) (by dsimp only; omega)
  have h2 := nf_each h1
  rw [show each [(⟨9, 0, n⟩ : S58)] = bs ⟨9, 0, n⟩ by simp [each], bs_chunk 9 n (by decide)] at h2
  exact h2

theorem ExtentForms : l08_ExtentForms.Pure := by
  intro l0 l1 w0 w1 hl hw
  obtain ⟨a0, b0⟩ := bounds_u8 hw.1
  obtain ⟨x, hx, hm0⟩ := made_ev l0 hl.1
  obtain ⟨y, hy, hm1⟩ := made_ev l1 hl.2
  have hb := hx.bx
  have hc := hy.bx
  have hlx := hx.len
  have hly := hy.len
  have hnx := len_nf hb
  have c0 := Int.tmod_eq_emod_of_nonneg (b := 72) a0
  refine Ev.rounds ?_
  unfold l08_ExtentForms.f
  refine Ev.bind' rfl (Ev.bind hm0 (Ev.bind hm1 (Ev.bind (psame_ev _ _ (by omega)) (Ev.bind (each_body hb) (Ev.bind (each_body hc) (Ev.bind (bytes_ev _ _ (by rw [List.length_map]; omega)) ?_))))))
  have he : decide (nf x = nf y) = decide (x.map toS = y.map toS) := decide_eq_decide.2 ⟨fun h => by rw [nf_inj hb.wf hc.wf h], fun h => by rw [toS_inj h]⟩
  rw [he]
  refine Ev.neg (by simp) (Ev.bind (valid_ev (body_nf hb)) ?_)
  refine Ev.round ?_
  simp only [l08_ExtentForms.j0, Bool.not_true]
  refine Ev.neg (by decide) ?_
  rw [wrap_id (n := w0) (by omega) (by omega), wrap_id (n := 1 + Int.tmod w0 72) (by omega) (by omega)]
  obtain ⟨m, em⟩ : ∃ m : Nat, 1 + Int.tmod w0 72 = m := ⟨(1 + Int.tmod w0 72).toNat, by omega⟩
  have hm : 1 ≤ m ∧ m ≤ 72 := by omega
  rw [em]
  clear c0 em
  have hp := put_eq hb 0 9 m (by omega) (by omega) (by omega) (by omega) (by omega)
  have hq := bx_put hb 0 m 9 (by omega) (by omega) (by omega)
  have hql := putX_len x 0 m 9
  simp only [Int.toNat_natCast, Int.toNat_zero] at hp
  refine Ev.bind' hp (Ev.pos rfl (Ev.bind (sane_ev hq (by omega)) ?_))
  refine Ev.round ?_
  simp only [l08_ExtentForms.j1, Bool.not_true]
  refine Ev.neg (by decide) (Ev.bind (rsize_ev (body_nf hq)) ?_)
  rw [sz_nf hq.wf]
  generalize putX x 0 m 9 = z at hq hql
  have h1 := put_eq hq 0 9 z.length (by omega) (by omega) (by omega) (by omega) (by omega)
  have h2 := put_eq bx_nil 0 9 z.length (by omega) (by omega) (by omega) (by omega) (by omega)
  have e1 : putX z 0 z.length 9 = (List.range z.length).map (fun (k : Nat) => ((9 : Int), (k : Int))) := by
    unfold putX
    simp
  have e2 : putX [] 0 z.length 9 = (List.range z.length).map (fun (k : Nat) => ((9 : Int), (k : Int))) := by
    unfold putX
    simp
  simp only [Int.toNat_natCast, Int.toNat_zero] at h1 h2
  rw [e1, whole_nf _ (by omega)] at h1
  rw [e2, whole_nf _ (by omega), nf_nil] at h2
  refine Ev.bind' h1 (Ev.bind' h2 (Ev.bind (same_res _ _ _ _ (by simp)) ?_))
  simp only [decide_true, Bool.true_and]
  exact Ev.pos rfl (Ev.pos rfl (Ev.now _))

end Go.Proofs.Ytfhjbhbmbnnimaa.Pure
