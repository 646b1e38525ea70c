/- Plain Lean functions with the answers of the Go functions that this law reaches, and proofs that the calls come to them; written by this session's program. -/
import Derived.Test.YtfhjbhbmbnnimaaVb
import Derived.Test.YtfhjbhbmbnnimaaPEx0
import Derived.Test.YtfhjbhbmbnnimaaPEx8
import Derived.Test.YtfhjbhbmbnnimaaPEx9
import Derived.Test.YtfhjbhbmbnnimaaPEx11
import Derived.Test.YtfhjbhbmbnnimaaPEx12
import Derived.Test.YtfhjbhbmbnnimaaPEx17
namespace Go.Proofs.Ytfhjbhbmbnnimaa.PE
open Go.RowKit Go.Proofs.YtfhjbhbmbnnimaaW.PrintWords Go.Proofs.YtfhjbhbmbnnimaaW.PrintLast Go.Proofs.YtfhjbhbmbnnimaaW.PrintMore
set_option linter.unusedVariables false
set_option linter.unusedSimpArgs false
theorem info69 : (Try.prog.info? 69).map (fun i => (i.zero, i.size, i.bytes)) = some (some (.agg #[(.int .i64 0), (.slice none 0 0)]), 2, 32) := by kernel_rfl
/-! #### struct type 47 -/
structure S47 where
 f0 : Int
 f1 : Int
 f2 : Int
 f3 : Int
def z47 : S47 := ⟨(0 : Int), (0 : Int), (0 : Int), (0 : Int)⟩
def k47 : Kd S47 := Kd.iso (Kd.pair (Kd.int .u8) (Kd.pair (Kd.int .u8) (Kd.pair (Kd.int .u8) (Kd.int .u8)))) (fun x : S47 => (x.f0, x.f1, x.f2, x.f3))
theorem k47_open {w : World} {x : S47} {cs : List Value} (h : k47.K w x cs) : cs = [.int .u8 x.f0, .int .u8 x.f1, .int .u8 x.f2, .int .u8 x.f3] := by
 obtain ⟨_, _, rfl, rfl, ⟨_, _, rfl, rfl, ⟨_, _, rfl, rfl, rfl⟩⟩⟩ := h
 exact rfl
theorem k47_openM {w : World} {base : Nat} {ok : Nat → Prop} {x : S47} {cs : List Value} (h : k47.M w base ok x cs) : cs = [.int .u8 x.f0, .int .u8 x.f1, .int .u8 x.f2, .int .u8 x.f3] := by
 obtain ⟨_, _, rfl, rfl, ⟨_, _, rfl, rfl, ⟨_, _, rfl, rfl, rfl⟩⟩⟩ := h
 exact rfl
theorem k47_mk (w : World) (x : S47)  : k47.K w x [.int .u8 x.f0, .int .u8 x.f1, .int .u8 x.f2, .int .u8 x.f3] := ⟨[.int .u8 x.f0], [.int .u8 x.f1, .int .u8 x.f2, .int .u8 x.f3], rfl, rfl, ⟨[.int .u8 x.f1], [.int .u8 x.f2, .int .u8 x.f3], rfl, rfl, ⟨[.int .u8 x.f2], [.int .u8 x.f3], rfl, rfl, rfl⟩⟩⟩
theorem k47_mkM (w : World) (base : Nat) (ok : Nat → Prop) (x : S47)  : k47.M w base ok x [.int .u8 x.f0, .int .u8 x.f1, .int .u8 x.f2, .int .u8 x.f3] := ⟨[.int .u8 x.f0], [.int .u8 x.f1, .int .u8 x.f2, .int .u8 x.f3], rfl, rfl, ⟨[.int .u8 x.f1], [.int .u8 x.f2, .int .u8 x.f3], rfl, rfl, ⟨[.int .u8 x.f2], [.int .u8 x.f3], rfl, rfl, rfl⟩⟩⟩
theorem k47_mkF (W : World) (ok : Nat → Prop) (x : S47) : Kd.FK k47 W ok x [.int .u8 x.f0, .int .u8 x.f1, .int .u8 x.f2, .int .u8 x.f3] := fun W2 _ => k47_mk W2 x
def rd_T47 (xs : List S47) (i : Int) : S47 := xs.getD i.toNat z47
theorem at_T47 {w : World} {A : Option Addr} {n : Nat} {xs : List S47} (h : Kd.C k47 w A n xs) (i : Int) (h0 : 0 ≤ i) (h1 : i < n) : ∃ ad , A = some ad ∧ w.cell? (ad.add (i.toNat * 4)) = some (.int .u8 (rd_T47 xs i).f0) ∧ w.cell? ⟨(ad.add (i.toNat * 4)).block, (ad.add (i.toNat * 4)).off + 1, none⟩ = some (.int .u8 (rd_T47 xs i).f1) ∧ w.cell? ⟨(ad.add (i.toNat * 4)).block, (ad.add (i.toNat * 4)).off + 2, none⟩ = some (.int .u8 (rd_T47 xs i).f2) ∧ w.cell? ⟨(ad.add (i.toNat * 4)).block, (ad.add (i.toNat * 4)).off + 3, none⟩ = some (.int .u8 (rd_T47 xs i).f3) := by
 obtain ⟨ad, c, e, _, hK, hc0⟩ := Kd.C_get h z47 i h0 h1
 have hc : ∀ j u, c[j]? = some u → w.cell? (ad.add (i.toNat * 4 + j)) = some u := hc0
 obtain rfl := k47_open hK
 exact ⟨ad, e, hc 0 _ rfl, by rw [← add_field _ _ 1 (by omega)]; exact hc 1 _ rfl, by rw [← add_field _ _ 2 (by omega)]; exact hc 2 _ rfl, by rw [← add_field _ _ 3 (by omega)]; exact hc 3 _ rfl⟩

attribute [local go_sem] max2_int min2_int max_two min_two max_three min_three max_four min_four   -- for this text's walks alone
/-- One of four. -/
def pick4 (a b c d i : Int) : Int := if i = 0 then a else if i = 1 then b else if i = 2 then c else d
theorem pick_cell {w : World} {g t : Nat} {a b c d i v : Int} (h : w.heap[g]? = some (.cells #[.int .u8 a, .int .u8 b, .int .u8 c, .int .u8 d] t (0, 0))) (h0 : 0 ≤ i) (h1 : i < 4) (hv : v = pick4 a b c d i) : w.cell? ⟨g, i.toNat, none⟩ = some (.int .u8 v) := by
 have : i = 0 ∨ i = 1 ∨ i = 2 ∨ i = 3 := by omega
 subst hv
 rcases this with rfl | rfl | rfl | rfl
 ·exact (blk_cell h 0).trans rfl
 ·exact (blk_cell h 1).trans rfl
 ·exact (blk_cell h 2).trans rfl
 ·exact (blk_cell h 3).trans rfl
/-! ### l08_blobs: function 24 -/
mutual
def l08_blobs.l0 : Nat → List (S69) → Int → Int → Int → Int → Int → Option ((List (S69)))
 | 0, _, _, _, _, _, _ => none
 | k + 1, x3, x4, x231000, x231001, x231002, x231003 => if x4 < 4 then (l08_blobs.l1 k x3 x4 (([] : List Int)) 0 x231000 x231001 x231002 x231003) else (some x3)
def l08_blobs.l1 : Nat → List (S69) → Int → List Int → Int → Int → Int → Int → Int → Option ((List (S69)))
 | 0, _, _, _, _, _, _, _, _ => none
 | k + 1, x3, x4, x5, x6, x231000, x231001, x231002, x231003 => if 0 ≤ x4 then (if x4 < 4 then (if x6 < (Int.tmod (wrap64 (pick4 x231000 x231001 x231002 x231003 x4)) 40) then (if x5.length < 140737488355328 then (l08_blobs.l1 k x3 x4 (x5 ++ [(wrap64 ((wrap64 ((wrap64 (16 * x4)) + x6)) + 1)) % 256]) (wrap64 (x6 + 1)) x231000 x231001 x231002 x231003) else (none)) else (if (pick4 x231000 x231001 x231002 x231003 x4) < 250 then (if x3.length < 4398046511104 then (l08_blobs.l0 k (x3 ++ [(⟨wrap64 (x4 + 1), x5⟩ : S69)]) (wrap64 (x4 + 1)) x231000 x231001 x231002 x231003) else (none)) else (l08_blobs.l0 k x3 (wrap64 (x4 + 1)) x231000 x231001 x231002 x231003))) else (none)) else (none)
end
def l08_blobs.f (k : Nat) (a0_0 : Int) (a0_1 : Int) (a0_2 : Int) (a0_3 : Int) : Option ((List (S69))) := l08_blobs.l0 k (([] : List (S69))) 0 a0_0 a0_1 a0_2 a0_3
theorem l08_blobs.mono_l : ∀ k, (∀ y0 y1 y2 y3 y4 y5, LeO (l08_blobs.l0 k y0 y1 y2 y3 y4 y5) (l08_blobs.l0 (k + 1) y0 y1 y2 y3 y4 y5)) ∧ (∀ y0 y1 y2 y3 y4 y5 y6 y7, LeO (l08_blobs.l1 k y0 y1 y2 y3 y4 y5 y6 y7) (l08_blobs.l1 (k + 1) y0 y1 y2 y3 y4 y5 y6 y7))
 | 0 => ⟨fun _ _ _ _ _ _ r h => by simp [l08_blobs.l0] at h, fun _ _ _ _ _ _ _ _ r h => by simp [l08_blobs.l1] at h⟩
 | k + 1 => by
  obtain ⟨ih0, ih1⟩ := l08_blobs.mono_l k
  refine ⟨?_, ?_⟩
  ·intro y0 y1 y2 y3 y4 y5
   unfold l08_blobs.l0
   repeat' first
   | (with_reducible exact ih0 _ _ _ _ _ _)
   | (with_reducible exact ih1 _ _ _ _ _ _ _ _)
   | (with_reducible exact LeO.refl _)
   | (with_reducible exact LeO.none _)
   | (with_reducible refine LeO.ite ?_ ?_)
   | (with_reducible refine LeO.bind ?_ (fun _ => ?_))
   | exact ih0 _ _ _ _ _ _
   | exact ih1 _ _ _ _ _ _ _ _
   | exact LeO.none _
   | refine LeO.ite ?_ ?_
   | refine LeO.bind ?_ (fun _ => ?_)
  ·intro y0 y1 y2 y3 y4 y5 y6 y7
   unfold l08_blobs.l1
   repeat' first
   | (with_reducible exact ih0 _ _ _ _ _ _)
   | (with_reducible exact ih1 _ _ _ _ _ _ _ _)
   | (with_reducible exact LeO.refl _)
   | (with_reducible exact LeO.none _)
   | (with_reducible refine LeO.ite ?_ ?_)
   | (with_reducible refine LeO.bind ?_ (fun _ => ?_))
   | exact ih0 _ _ _ _ _ _
   | exact ih1 _ _ _ _ _ _ _ _
   | exact LeO.none _
   | refine LeO.ite ?_ ?_
   | refine LeO.bind ?_ (fun _ => ?_)
theorem l08_blobs.mono : ∀ a0 a1 a2 a3 k, LeO (l08_blobs.f k a0 a1 a2 a3) (l08_blobs.f (k + 1) a0 a1 a2 a3) := by
 intro a0 a1 a2 a3 k
 obtain ⟨ih0, ih1⟩ := l08_blobs.mono_l k
 unfold l08_blobs.f
 repeat' first
   | (with_reducible exact ih0 _ _ _ _ _ _)
   | (with_reducible exact ih1 _ _ _ _ _ _ _ _)
   | (with_reducible exact LeO.refl _)
   | (with_reducible exact LeO.none _)
   | (with_reducible refine LeO.ite ?_ ?_)
   | (with_reducible refine LeO.bind ?_ (fun _ => ?_))
   | exact ih0 _ _ _ _ _ _
   | exact ih1 _ _ _ _ _ _ _ _
   | exact LeO.none _
   | refine LeO.ite ?_ ?_
   | refine LeO.bind ?_ (fun _ => ?_)
set_option maxHeartbeats 8000000 in
set_option maxRecDepth 100000 in
theorem l08_blobs.calls (k : Nat) (a0_0 : Int) (a0_1 : Int) (a0_2 : Int) (a0_3 : Int) (r : List (S69)) (w : World) (h : l08_blobs.f k a0_0 a0_1 a0_2 a0_3 = some r) :
  Calls Try.prog 24 #[.agg #[.int .u8 a0_0, .int .u8 a0_1, .int .u8 a0_2, .int .u8 a0_3]] w fun e w' => ∃ v0_ : Value, e = .returned (v0_) ∧ Kd.S k69 69 w' w.heap.size (fun _ => True) v0_ r ∧ Below w.heap.size w w' := by
 have hu47 := Try.underlying47
 have hu69 := Try.underlying69
 have HB := Aside0.mk (Below.refl w.heap.size w)
 have H : (l08_blobs.l0 k (([] : List (S69))) 0 a0_0 a0_1 a0_2 a0_3) = some r := h
 clear h
 obtain ⟨y231, hy231⟩ : ∃ y_ : List (S69), y_ = (([] : List (S69))) := ⟨_, rfl⟩
 replace H : (l08_blobs.l0 k y231 0 a0_0 a0_1 a0_2 a0_3) = some r := by first | (rw [hy231]; with_reducible exact H) | (have H2_ := (Option.bind_some _ _).symm.trans H; rw [hy231]; with_reducible exact H2_) | (have H2_ := (Option.bind_some _ _).symm.trans H; with_reducible exact H2_) | with_reducible exact H | (rw [hy231]; exact H) | exact H
 have Ny231 := Aside0.mk hy231
 clear hy231
 have H' := Aside0.mk H
 clear H
 go_enter Try.func24, Try.ntmps24
 go_wp2_with (first | ((with_reducible refine gate_dst (N := 1) rfl ?_); refine box_event ?hg (N := 1) ?hd (cs := #[.int .u8 a0_0, .int .u8 a0_1, .int .u8 a0_2, .int .u8 a0_3]) (t := 47) ?hr ?_; (case hd => rfl); (case hg => rfl); (case hr => first | (go_simp; done) | (go_simp; rfl)); intro gb230 hg w2 hbox hb; have n0_ := Aside0.mk (below_step (by repeat (first | (with_reducible first | exact HB.out | apply below_alloc | apply pw_below_drewN | apply below_drew1) | exact HB.out)) hb); have n1_ := Aside0.mk (hbox); have n2_ := Aside0.mk ((by rw [hg]; exact (below_size (by repeat (first | (with_reducible first | exact HB.out | apply below_alloc | apply pw_below_drewN | apply below_drew1) | exact HB.out))) : w.heap.size ≤ gb230)); have n3_ := Aside0.mk ((by rw [hg]; exact (below_size (by repeat (first | (with_reducible first | exact HB.out | apply below_alloc | apply pw_below_drewN | apply below_drew1) | exact HB.out))) : w.heap.size ≤ gb230)); clear HB; have HB := n0_; have BK230 := n1_; have GW230 := n2_; have GE230 := n3_; clear n0_ n1_ n2_ n3_; clear hb hbox hg) | ((with_reducible refine gate_dst (N := 7) rfl ?_); refine Kd.S_lit k69 _ 69 ?hg (N := 7) ?hd (xs := ([] : List (S69))) (inner := []) (ok := fun _ => True) (okp := fun _ => True) ?hr ?hp (fun _ hk => hk) trivial (Below.refl _ _) (Nat.le_refl _) (by simp) ?_; (case hd => rfl); (case hg => rfl); (case hr => first | (go_simp; done) | (go_simp; rfl)); (case hp => exact (Reps.none _ _)); intro v232 w3 ho4 hb hg_ hnew_; clear hg_ hnew_; (first | rw [← Ny231.out] at ho4 | (simp only [Int.reduceToNat] at ho4; rw [← Ny231.out] at ho4)); have n0_ := Aside0.mk (Kd.S_lower ho4 (below_size (by repeat (first | (with_reducible first | exact HB.out | apply below_alloc | apply pw_below_drewN | apply below_drew1 | refine below_set ?_ GE230.out) | exact HB.out)))); have n1_ := Aside0.mk (blk_below (g := gb230) (o := .cells #[.int .u8 a0_0, .int .u8 a0_1, .int .u8 a0_2, .int .u8 a0_3] 47 (0, 0)) (by (with_reducible repeat (first | refine blk_drewN ?_ _ | refine blk_drew ?_ | refine blk_alloc ?_ _)); exact BK230.out) hb); have n2_ := Aside0.mk (below_step (by repeat (first | (with_reducible first | exact HB.out | apply below_alloc | apply pw_below_drewN | apply below_drew1 | refine below_set ?_ GE230.out) | exact HB.out)) hb); clear BK230; clear HB; have HO233 := n0_; have BK230 := n1_; have HB := n2_; clear n0_ n1_ n2_; clear hb ho4))
 go_loopg [3, 4] k (fun kq v3 v4 w' => ∃ (x3_1 : List (S69)) (x4_1 : Int), v4 = .int .i64 x4_1 ∧ Aside0 (l08_blobs.l0 kq x3_1 x4_1 a0_0 a0_1 a0_2 a0_3 = some r) ∧ Aside0 (kq ≤ k) ∧ Aside0 (Kd.S k69 69 w' w.heap.size (fun _ => True) v3 x3_1) ∧ Aside0 (w'.heap[gb230]? = some (.cells #[.int .u8 a0_0, .int .u8 a0_1, .int .u8 a0_2, .int .u8 a0_3] 47 (0, 0))) ∧ Aside0 (Below w.heap.size w w'))
 case atStart => exact ⟨(y231), (0), (by first | rfl | (simp; done) | (simp [*]; done)), H', ⟨Nat.le_refl _⟩, ⟨by (with_reducible repeat (first | apply Kd.S_alloc | apply Kd.S_drewN | apply Kd.S_drew)); exact HO233.out⟩, ⟨by (with_reducible repeat (first | refine blk_drewN ?_ _ | refine blk_drew ?_ | refine blk_alloc ?_ _)); exact BK230.out⟩, ⟨by repeat (first | (with_reducible first | exact HB.out | apply below_alloc | apply pw_below_drewN | apply below_drew1 | refine below_set ?_ GE230.out) | exact HB.out)⟩⟩
 case round =>
  clear H'
  try clear c2
  try clear p2
  obtain ⟨x3_1, x4_1, rfl, HA, HK1, HO_3, BK230, HB⟩ := hrel
  cases gk with
  | zero => exact absurd HA.out (by simp [l08_blobs.l0])
  | succ k1 =>
   have H := HA.out
   clear HA
   simp only [l08_blobs.l0] at H
   by_cases c5 : x4_1 < 4
   ·rw [if_pos c5] at H
    have c5b0 : decide (x4_1 < 4) = true := decide_eq_true c5
    clear c5
    obtain ⟨y234, hy234⟩ : ∃ y_ : List Int, y_ = (([] : List Int)) := ⟨_, rfl⟩
    replace H : (l08_blobs.l1 k1 x3_1 x4_1 y234 0 a0_0 a0_1 a0_2 a0_3) = some r := by first | (rw [hy234]; with_reducible exact H) | (have H2_ := (Option.bind_some _ _).symm.trans H; rw [hy234]; with_reducible exact H2_) | (have H2_ := (Option.bind_some _ _).symm.trans H; with_reducible exact H2_) | with_reducible exact H | (rw [hy234]; exact H) | exact H
    have Ny234 := Aside0.mk hy234
    clear hy234
    have H' := Aside0.mk H
    clear H
    go_wp2_with (first | ((with_reducible refine gate_dst (N := 12) rfl ?_); refine Kd.R_lit (Kd.int .u8) _ 5 ?hg (N := 12) ?hd (xs := ([] : List Int)) (inner := []) (ok := fun _ => True) (okp := fun _ => True) ?hr ?hp (fun _ hk => hk) trivial (Below.refl _ _) (Nat.le_refl _) (by simp) ?_; (case hd => rfl); (case hg => rfl); (case hr => first | (go_simp; done) | (go_simp; rfl)); (case hp => exact (Reps.none _ _)); intro v235 w6 ho7 hb hg_ hnew_; clear hg_ hnew_; (first | rw [← Ny234.out] at ho7 | (simp only [Int.reduceToNat] at ho7; rw [← Ny234.out] at ho7)); have n0_ := Aside0.mk (Kd.S_elder' (by (with_reducible repeat (first | apply Kd.S_alloc | apply Kd.S_drewN | apply Kd.S_drew)); exact HO_3.out) (Kd.R_base ho7) hb); have n1_ := Aside0.mk (Kd.R_lower ho7 (below_size (by repeat (first | (with_reducible first | exact HB.out | apply below_alloc | apply pw_below_drewN | apply below_drew1 | refine below_set ?_ GE230.out) | exact HB.out)))); have n2_ := Aside0.mk (blk_below (g := gb230) (o := .cells #[.int .u8 a0_0, .int .u8 a0_1, .int .u8 a0_2, .int .u8 a0_3] 47 (0, 0)) (by (with_reducible repeat (first | refine blk_drewN ?_ _ | refine blk_drew ?_ | refine blk_alloc ?_ _)); exact BK230.out) hb); have n3_ := Aside0.mk (below_step (by repeat (first | (with_reducible first | exact HB.out | apply below_alloc | apply pw_below_drewN | apply below_drew1 | refine below_set ?_ GE230.out) | exact HB.out)) hb); clear HO_3; clear BK230; clear HB; have HO_3 := n0_; have HO236 := n1_; have BK230 := n2_; have HB := n3_; clear n0_ n1_ n2_ n3_; clear hb ho7))
    go_loopg [5, 6] k1 (fun kq v5 v6 w' => ∃ (x5_2 : List Int) (x6_2 : Int), v6 = .int .i64 x6_2 ∧ Aside0 (l08_blobs.l1 kq x3_1 x4_1 x5_2 x6_2 a0_0 a0_1 a0_2 a0_3 = some r) ∧ Aside0 (kq ≤ k1) ∧ Aside0 (Kd.S k69 69 w' w.heap.size (fun k_ => some k_ ≠ (v5 : Value).ownBlock) u3 x3_1) ∧ Aside0 (Kd.R (Kd.int .u8) 5 w' w.heap.size (fun _ => True) v5 x5_2) ∧ Aside0 (w'.heap[gb230]? = some (.cells #[.int .u8 a0_0, .int .u8 a0_1, .int .u8 a0_2, .int .u8 a0_3] 47 (0, 0))) ∧ Aside0 (Below w.heap.size w w'))
    case atStart => exact ⟨(y234), (0), (by first | rfl | (simp; done) | (simp [*]; done)), H', ⟨Nat.le_refl _⟩, ⟨by (with_reducible repeat (first | apply Kd.S_alloc | apply Kd.S_drewN | apply Kd.S_drew)); exact Kd.S_mono HO_3.out (fun _ hk => hk.2)⟩, ⟨by (with_reducible repeat (first | apply Kd.R_alloc | apply Kd.R_drewN | apply Kd.R_drew)); exact HO236.out⟩, ⟨by (with_reducible repeat (first | refine blk_drewN ?_ _ | refine blk_drew ?_ | refine blk_alloc ?_ _)); exact BK230.out⟩, ⟨by repeat (first | (with_reducible first | exact HB.out | apply below_alloc | apply pw_below_drewN | apply below_drew1 | refine below_set ?_ GE230.out) | exact HB.out)⟩⟩
    case round =>
     clear H'
     try clear c2
     try clear p2
     try clear c5
     try clear c5b0
     try clear p2
     obtain ⟨x5_2, x6_2, rfl, HA, HK2, HO_3, HO_5, BK230, HB⟩ := hrel
     cases gk with
     | zero => exact absurd HA.out (by simp [l08_blobs.l1])
     | succ k2 =>
      have H := HA.out
      clear HA
      simp only [l08_blobs.l1] at H
      refine (Decidable.em (0 ≤ x4_1)).elim (fun cp => ?_) (fun cp => by rw [if_neg cp] at H; exact absurd H (by simp))
      rw [if_pos cp] at H
      refine (Decidable.em (x4_1 < 4)).elim (fun cq => ?_) (fun cq => by rw [if_neg cq] at H; exact absurd H (by simp))
      rw [if_pos cq] at H
      obtain ⟨pv, hpv⟩ : ∃ v, v = pick4 a0_0 a0_1 a0_2 a0_3 x4_1 := ⟨_, rfl⟩
      rw [← hpv] at H
      have hczv : wr.cell? ⟨gb230, x4_1.toNat, none⟩ = some (.int .u8 pv) := pick_cell BK230.out cp cq hpv
      have hfzv : wr.frozen? ⟨gb230, x4_1.toNat, none⟩ = false := blk_frozen BK230.out _
      clear hpv
      replace cp := eq_true cp
      replace cq := eq_true cq
      by_cases c8 : x6_2 < (Int.tmod (wrap64 pv) 40)
      ·rw [if_pos c8] at H
       have c8b0 : decide (x6_2 < (Int.tmod (wrap64 pv) 40)) = true := decide_eq_true c8
       clear c8
       by_cases c9 : x5_2.length < 140737488355328
       ·rw [if_pos c9] at H
        have LMc9 := Aside0.mk c9
        clear c9
        obtain ⟨y237, hy237⟩ : ∃ y_ : List Int, y_ = (x5_2 ++ [(wrap64 ((wrap64 ((wrap64 (16 * x4_1)) + x6_2)) + 1)) % 256]) := ⟨_, rfl⟩
        replace H : (l08_blobs.l1 k2 x3_1 x4_1 y237 (wrap64 (x6_2 + 1)) a0_0 a0_1 a0_2 a0_3) = some r := by first | (rw [hy237]; with_reducible exact H) | (have H2_ := (Option.bind_some _ _).symm.trans H; rw [hy237]; with_reducible exact H2_) | (have H2_ := (Option.bind_some _ _).symm.trans H; with_reducible exact H2_) | with_reducible exact H | (rw [hy237]; exact H) | exact H
        have Ny237 := Aside0.mk hy237
        clear hy237
        have H' := Aside0.mk H
        clear H
        have hcz10_0 : wr.cell? ⟨gb230, 0, none⟩ = some (.int .u8 a0_0) := (blk_cell BK230.out 0).trans rfl
        have hcz10_1 : wr.cell? ⟨gb230, 1, none⟩ = some (.int .u8 a0_1) := (blk_cell BK230.out 1).trans rfl
        have hcz10_2 : wr.cell? ⟨gb230, 2, none⟩ = some (.int .u8 a0_2) := (blk_cell BK230.out 2).trans rfl
        have hcz10_3 : wr.cell? ⟨gb230, 3, none⟩ = some (.int .u8 a0_3) := (blk_cell BK230.out 3).trans rfl
        have hfz10_0 := blk_frozen BK230.out 0
        have hfz10_1 := blk_frozen BK230.out 1
        have hfz10_2 := blk_frozen BK230.out 2
        have hfz10_3 := blk_frozen BK230.out 3
        go_wp2_with (first | ((with_reducible refine gate_builtin (b := .append) (xs := #[.tmp 22, .tmp 29]) rfl ?_); at_builtin; refine Kd.R_append (Kd.int .u8) (w0 := w) w.heap.size rfl (.tmp 22) (.tmp 29) 50 5 (.int .u8 0) 1 rfl Try.underlying50 info5 rfl (by decide) (by omega) u5 x5_2 ((wrap64 ((wrap64 ((wrap64 (16 * x4_1)) + x6_2)) + 1)) % 256) [.int .u8 ((wrap64 ((wrap64 ((wrap64 (16 * x4_1)) + x6_2)) + 1)) % 256)] (fun _ => True) (fun _ => False) rfl rfl ?aP (fun _ hk => hk.elim) ?aF ?aO ?aB ?aS ?aL ?_; (case aP => exact rfl); (case aB => exact (by repeat (first | (with_reducible first | exact HB.out | apply below_alloc | apply pw_below_drewN | apply below_drew1 | refine below_set ?_ GE230.out) | exact HB.out))); (case aF => exact (fun _ _ => trivial)); (case aO => exact (by (with_reducible repeat (first | apply Kd.R_alloc | apply Kd.R_drewN | apply Kd.R_drew)); exact HO_5.out)); (case aS => exact (below_size (by repeat (first | (with_reducible first | exact HB.out | apply below_alloc | apply pw_below_drewN | apply below_drew1 | refine below_set ?_ GE230.out) | exact HB.out)))); (case aL => have := LMc9.out; omega); intro v238 w11 ho hb hg hat; rw [← Ny237.out] at ho; have n0_ := Aside0.mk (Kd.S_after (ok := (fun _ => True)) (by (with_reducible repeat (first | apply Kd.S_alloc | apply Kd.S_drewN | apply Kd.S_drew)); exact Kd.S_mono HO_3.out (fun _ hk => ⟨trivial, hk⟩)) hg hat); have n1_ := Aside0.mk (blk_grown (g := gb230) (o := .cells #[.int .u8 a0_0, .int .u8 a0_1, .int .u8 a0_2, .int .u8 a0_3] 47 (0, 0)) (by (with_reducible repeat (first | refine blk_drewN ?_ _ | refine blk_drew ?_ | refine blk_alloc ?_ _)); exact BK230.out) hg (Kd.R_ne HO_5.out BK230.out (by decide))); have n2_ := Aside0.mk (hb); have n3_ := Aside0.mk (ho); clear HO_3; clear BK230; clear HB; clear HO_5; have HO_3 := n0_; have BK230 := n1_; have HB := n2_; have HO239 := n3_; clear n0_ n1_ n2_ n3_; clear ho hb hg hat))
        go_roundg k2
        case measure => have := HK1.out; have := HK2.out; omega
        case rel => exact ⟨(y237), (wrap64 (x6_2 + 1)), (by first | rfl | (simp; done) | (simp [*]; done)), H', ⟨by have := HK1.out; have := HK2.out; omega⟩, ⟨by (with_reducible repeat (first | apply Kd.S_alloc | apply Kd.S_drewN | apply Kd.S_drew)); exact Kd.S_mono HO_3.out (fun _ hk => hk.2)⟩, ⟨by (with_reducible repeat (first | apply Kd.R_alloc | apply Kd.R_drewN | apply Kd.R_drew)); exact HO239.out⟩, ⟨by (with_reducible repeat (first | refine blk_drewN ?_ _ | refine blk_drew ?_ | refine blk_alloc ?_ _)); exact BK230.out⟩, ⟨by repeat (first | (with_reducible first | exact HB.out | apply below_alloc | apply pw_below_drewN | apply below_drew1 | refine below_set ?_ GE230.out) | exact HB.out)⟩⟩
       ·rw [if_neg c9] at H
        exact absurd H (by simp)
      ·rw [if_neg c8] at H
       have c8b0 : decide (x6_2 < (Int.tmod (wrap64 pv) 40)) = false := decide_eq_false c8
       clear c8
       by_cases c12 : pv < 250
       ·rw [if_pos c12] at H
        have c12b0 : decide (pv < 250) = true := decide_eq_true c12
        clear c12
        by_cases c13 : x3_1.length < 4398046511104
        ·rw [if_pos c13] at H
         have LMc13 := Aside0.mk c13
         clear c13
         obtain ⟨y240, hy240⟩ : ∃ y_ : List (S69), y_ = (x3_1 ++ [(⟨wrap64 (x4_1 + 1), x5_2⟩ : S69)]) := ⟨_, rfl⟩
         replace H : (l08_blobs.l0 k2 y240 (wrap64 (x4_1 + 1)) a0_0 a0_1 a0_2 a0_3) = some r := by first | (rw [hy240]; with_reducible exact H) | (have H2_ := (Option.bind_some _ _).symm.trans H; rw [hy240]; with_reducible exact H2_) | (have H2_ := (Option.bind_some _ _).symm.trans H; with_reducible exact H2_) | with_reducible exact H | (rw [hy240]; exact H) | exact H
         have Ny240 := Aside0.mk hy240
         clear hy240
         have H' := Aside0.mk H
         clear H
         have hcz14_0 : wr.cell? ⟨gb230, 0, none⟩ = some (.int .u8 a0_0) := (blk_cell BK230.out 0).trans rfl
         have hcz14_1 : wr.cell? ⟨gb230, 1, none⟩ = some (.int .u8 a0_1) := (blk_cell BK230.out 1).trans rfl
         have hcz14_2 : wr.cell? ⟨gb230, 2, none⟩ = some (.int .u8 a0_2) := (blk_cell BK230.out 2).trans rfl
         have hcz14_3 : wr.cell? ⟨gb230, 3, none⟩ = some (.int .u8 a0_3) := (blk_cell BK230.out 3).trans rfl
         have hfz14_0 := blk_frozen BK230.out 0
         have hfz14_1 := blk_frozen BK230.out 1
         have hfz14_2 := blk_frozen BK230.out 2
         have hfz14_3 := blk_frozen BK230.out 3
         obtain ⟨Ao15, co15, eo15⟩ := Kd.R_slice HO_5.out
         subst eo15
         go_wp2_with (first | ((with_reducible refine gate_builtin (b := .append) (xs := #[.tmp 35, .tmp 40]) rfl ?_); at_builtin; refine Kd.S_append k69 (w0 := w) w.heap.size rfl (.tmp 35) (.tmp 40) 48 69 (.agg #[(.int .i64 0), (.slice none 0 0)]) 32 rfl Try.underlying48 info69 rfl (by decide) (by omega) u3 x3_1 (⟨wrap64 (x4_1 + 1), x5_2⟩ : S69) [.int .i64 (wrap64 (x4_1 + 1)), .slice Ao15 x5_2.length co15] (fun _ => True) (fun k_ => some k_ = (.slice Ao15 x5_2.length co15 : Value).ownBlock) rfl rfl ?aP (fun k_ hk_ => ((Kd.R_mono (ok' := fun k_ => ((fun _ => True)) k_ ∧ some k_ ≠ (u3 : Value).ownBlock) (Kd.R_apart' (HO_5.out) (Kd.S_typed HO_3.out) (by decide)) (fun k_ hk => ⟨trivial, hk.2⟩))).1 k_ hk_.symm) ?aF ?aO ?aB ?aS ?aL ?_; (case aP => exact k69_mkM _ _ _ (⟨wrap64 (x4_1 + 1), x5_2⟩ : S69) (Kd.R_mono (Kd.R_tight rfl (Kd.R_mono (ok' := fun k_ => ((fun _ => True)) k_ ∧ some k_ ≠ (u3 : Value).ownBlock) (Kd.R_apart' (HO_5.out) (Kd.S_typed HO_3.out) (by decide)) (fun k_ hk => ⟨trivial, hk.2⟩))) (fun _ h_ => h_))); (case aB => exact (by repeat (first | (with_reducible first | exact HB.out | apply below_alloc | apply pw_below_drewN | apply below_drew1 | refine below_set ?_ GE230.out) | exact HB.out))); (case aF => exact (fun _ _ => trivial)); (case aO => exact (by (with_reducible repeat (first | apply Kd.S_alloc | apply Kd.S_drewN | apply Kd.S_drew)); exact Kd.S_mono HO_3.out (fun k_ hk => ⟨trivial, fun e_ => hk e_⟩))); (case aS => exact (below_size (by repeat (first | (with_reducible first | exact HB.out | apply below_alloc | apply pw_below_drewN | apply below_drew1 | refine below_set ?_ GE230.out) | exact HB.out)))); (case aL => have := LMc13.out; omega); intro v241 w16 ho hb hg hat; rw [← Ny240.out] at ho; have n0_ := Aside0.mk (blk_grown (g := gb230) (o := .cells #[.int .u8 a0_0, .int .u8 a0_1, .int .u8 a0_2, .int .u8 a0_3] 47 (0, 0)) (by (with_reducible repeat (first | refine blk_drewN ?_ _ | refine blk_drew ?_ | refine blk_alloc ?_ _)); exact BK230.out) hg (Kd.S_ne HO_3.out BK230.out (by decide))); have n1_ := Aside0.mk (hb); have n2_ := Aside0.mk (ho); clear BK230; clear HB; clear HO_3; clear HO_5; have BK230 := n0_; have HB := n1_; have HO242 := n2_; clear n0_ n1_ n2_; clear ho hb hg hat))
         go_roundg k2
         case measure => have := HK1.out; have := HK2.out; omega
         case rel => exact ⟨(y240), (wrap64 (x4_1 + 1)), (by first | rfl | (simp; done) | (simp [*]; done)), H', ⟨by have := HK1.out; have := HK2.out; omega⟩, ⟨by (with_reducible repeat (first | apply Kd.S_alloc | apply Kd.S_drewN | apply Kd.S_drew)); exact HO242.out⟩, ⟨by (with_reducible repeat (first | refine blk_drewN ?_ _ | refine blk_drew ?_ | refine blk_alloc ?_ _)); exact BK230.out⟩, ⟨by repeat (first | (with_reducible first | exact HB.out | apply below_alloc | apply pw_below_drewN | apply below_drew1 | refine below_set ?_ GE230.out) | exact HB.out)⟩⟩
        ·rw [if_neg c13] at H
         exact absurd H (by simp)
       ·rw [if_neg c12] at H
        have c12b0 : decide (pv < 250) = false := decide_eq_false c12
        clear c12
        have H' := Aside0.mk H
        clear H
        have hcz17_0 : wr.cell? ⟨gb230, 0, none⟩ = some (.int .u8 a0_0) := (blk_cell BK230.out 0).trans rfl
        have hcz17_1 : wr.cell? ⟨gb230, 1, none⟩ = some (.int .u8 a0_1) := (blk_cell BK230.out 1).trans rfl
        have hcz17_2 : wr.cell? ⟨gb230, 2, none⟩ = some (.int .u8 a0_2) := (blk_cell BK230.out 2).trans rfl
        have hcz17_3 : wr.cell? ⟨gb230, 3, none⟩ = some (.int .u8 a0_3) := (blk_cell BK230.out 3).trans rfl
        have hfz17_0 := blk_frozen BK230.out 0
        have hfz17_1 := blk_frozen BK230.out 1
        have hfz17_2 := blk_frozen BK230.out 2
        have hfz17_3 := blk_frozen BK230.out 3
        go_wp2
        go_roundg k2
        case measure => have := HK1.out; have := HK2.out; omega
        case rel => exact ⟨(x3_1), (wrap64 (x4_1 + 1)), (by first | rfl | (simp; done) | (simp [*]; done)), H', ⟨by have := HK1.out; have := HK2.out; omega⟩, ⟨by (with_reducible repeat (first | apply Kd.S_alloc | apply Kd.S_drewN | apply Kd.S_drew)); exact Kd.S_mono HO_3.out (fun _ hk => trivial)⟩, ⟨by (with_reducible repeat (first | refine blk_drewN ?_ _ | refine blk_drew ?_ | refine blk_alloc ?_ _)); exact BK230.out⟩, ⟨by repeat (first | (with_reducible first | exact HB.out | apply below_alloc | apply pw_below_drewN | apply below_drew1 | refine below_set ?_ GE230.out) | exact HB.out)⟩⟩
   ·rw [if_neg c5] at H
    have c5b0 : decide (x4_1 < 4) = false := decide_eq_false c5
    clear c5
    obtain rfl := Option.some.inj H
    go_wp2
    go_ret
    exact ⟨_, by first | rfl | (simp [errW_none, errW_some] <;> rfl) | (simp [*, errW_none, errW_some] <;> rfl) | (exfalso; simp_all only [aside0_iff, Option.some.injEq, reduceCtorEq]), by (with_reducible repeat (first | apply Kd.S_alloc | apply Kd.S_drewN | apply Kd.S_drew)); exact HO_3.out, by repeat (first | (with_reducible first | exact HB.out | apply below_alloc | apply pw_below_drewN | apply below_drew1 | refine below_set ?_ GE230.out) | exact HB.out)⟩

/-! ### l08_ExtentBytes: function 6 -/
mutual
def l08_ExtentBytes.l0 : Nat → Bool → List (S69) → List (S32) → List Int → Int → Int → List Int → Int → Option (Bool)
 | 0, _, _, _, _, _, _, _, _ => none
 | k + 1, x5, x7, x8, x10, x11, x12, x261000, x261001 => if x12 < (x8.length : Int) then (if 0 ≤ x12 then (if ((rd_T32 x8 x12).f0) = (-1) then (l08_ExtentBytes.j1 k x5 x7 x8 x10 60 x12 x261000 x261001) else (l08_ExtentBytes.j1 k x5 x7 x8 x10 x11 x12 x261000 x261001)) else (none)) else (l08_ExtentBytes.l1 k x5 x8 x10 x11 0 x261000 x261001)
def l08_ExtentBytes.j1 : Nat → Bool → List (S69) → List (S32) → List Int → Int → Int → List Int → Int → Option (Bool)
 | 0, _, _, _, _, _, _, _, _ => none
 | k + 1, x5, x7, x8, x10, x11, x12, x261000, x261001 => if 0 ≤ x12 then (if x12 < (x8.length : Int) then (if ((rd_T32 x8 x12).f0) ≤ 0 then (if x10.length < 140737488355328 then (l08_ExtentBytes.l0 k x5 x7 x8 (x10 ++ [0]) x11 (wrap64 (x12 + 1)) x261000 x261001) else (none)) else ((r08_Blob.f k x7 ((rd_T32 x8 x12).f0)).bind fun bt270 => (if bt270.2 = true then (l08_ExtentBytes.j2 k x5 x7 x8 x10 x11 x12 bt270.1 (decide (((rd_T32 x8 x12).f1) ≥ (bt270.1.length : Int))) x261000 x261001) else (l08_ExtentBytes.j2 k x5 x7 x8 x10 x11 x12 bt270.1 true x261000 x261001)))) else (none)) else (none)
def l08_ExtentBytes.j2 : Nat → Bool → List (S69) → List (S32) → List Int → Int → Int → List Int → Bool → List Int → Int → Option (Bool)
 | 0, _, _, _, _, _, _, _, _, _, _ => none
 | k + 1, x5, x7, x8, x10, x11, x12, x13, x69, x261000, x261001 => if x69 = true then (if x11 = 0 then (l08_ExtentBytes.l0 k x5 x7 x8 x10 90 (wrap64 (x12 + 1)) x261000 x261001) else (l08_ExtentBytes.l0 k x5 x7 x8 x10 x11 (wrap64 (x12 + 1)) x261000 x261001)) else (if 0 ≤ x12 then (if x12 < (x8.length : Int) then (if 0 ≤ ((rd_T32 x8 x12).f1) then (if ((rd_T32 x8 x12).f1) < (x13.length : Int) then (if x10.length < 140737488355328 then (l08_ExtentBytes.l0 k x5 x7 x8 (x10 ++ [rd x13 ((rd_T32 x8 x12).f1)]) x11 (wrap64 (x12 + 1)) x261000 x261001) else (none)) else (none)) else (none)) else (none)) else (none))
def l08_ExtentBytes.l1 : Nat → Bool → List (S32) → List Int → Int → Int → List Int → Int → Option (Bool)
 | 0, _, _, _, _, _, _, _ => none
 | k + 1, x5, x8, x10, x11, x15, x261000, x261001 => if x15 < (x8.length : Int) then (if 0 ≤ x15 then (if ((rd_T32 x8 x15).f0) = (-1) then (l08_ExtentBytes.l1 k x5 x8 x10 60 (wrap64 (x15 + 1)) x261000 x261001) else (l08_ExtentBytes.l1 k x5 x8 x10 x11 (wrap64 (x15 + 1)) x261000 x261001)) else (none)) else (if x11 = 0 then (if x261001 = 0 then (if (strOfNums x261000).toList = (strOfNums x10).toList then (some x5) else (some false)) else (some false)) else (if x261001 = x11 then (if (x261000.length : Int) = 0 then (some x5) else (some false)) else (some false)))
end
def l08_ExtentBytes.f (k : Nat) (l0 : List (S37)) (a1_0 : Int) (a1_1 : Int) (a1_2 : Int) (a1_3 : Int) : Option (Bool) := (l08_sanity.f).bind fun t246 => ((r08_Made.f k l0).bind fun t247 => ((l08_blobs.f k a1_0 a1_1 a1_2 a1_3).bind fun t250 => ((r08_Each.f k t247).bind fun t253 => ((l08_read.f t247 t250).bind fun bt256 => (l08_ExtentBytes.l0 k t246 t250 t253 (([] : List Int)) 0 0 bt256.1 bt256.2)))))
theorem l08_ExtentBytes.mono_l : ∀ k, (∀ y0 y1 y2 y3 y4 y5 y6 y7, LeO (l08_ExtentBytes.l0 k y0 y1 y2 y3 y4 y5 y6 y7) (l08_ExtentBytes.l0 (k + 1) y0 y1 y2 y3 y4 y5 y6 y7)) ∧ (∀ y0 y1 y2 y3 y4 y5 y6 y7, LeO (l08_ExtentBytes.j1 k y0 y1 y2 y3 y4 y5 y6 y7) (l08_ExtentBytes.j1 (k + 1) y0 y1 y2 y3 y4 y5 y6 y7)) ∧ (∀ y0 y1 y2 y3 y4 y5 y6 y7 y8 y9, LeO (l08_ExtentBytes.j2 k y0 y1 y2 y3 y4 y5 y6 y7 y8 y9) (l08_ExtentBytes.j2 (k + 1) y0 y1 y2 y3 y4 y5 y6 y7 y8 y9)) ∧ (∀ y0 y1 y2 y3 y4 y5 y6, LeO (l08_ExtentBytes.l1 k y0 y1 y2 y3 y4 y5 y6) (l08_ExtentBytes.l1 (k + 1) y0 y1 y2 y3 y4 y5 y6))
 | 0 => ⟨fun _ _ _ _ _ _ _ _ r h => by simp [l08_ExtentBytes.l0] at h, fun _ _ _ _ _ _ _ _ r h => by simp [l08_ExtentBytes.j1] at h, fun _ _ _ _ _ _ _ _ _ _ r h => by simp [l08_ExtentBytes.j2] at h, fun _ _ _ _ _ _ _ r h => by simp [l08_ExtentBytes.l1] at h⟩
 | k + 1 => by
  obtain ⟨ih0, ih1, ih2, ih3⟩ := l08_ExtentBytes.mono_l k
  refine ⟨?_, ?_, ?_, ?_⟩
  ·intro y0 y1 y2 y3 y4 y5 y6 y7
   unfold l08_ExtentBytes.l0
   repeat' first
   | (with_reducible exact ih0 _ _ _ _ _ _ _ _)
   | (with_reducible exact ih1 _ _ _ _ _ _ _ _)
   | (with_reducible exact ih2 _ _ _ _ _ _ _ _ _ _)
   | (with_reducible exact ih3 _ _ _ _ _ _ _)
   | (with_reducible exact l08_blobs.mono _ _ _ _ _)
   | (with_reducible exact r08_Blob.mono _ _ _)
   | (with_reducible exact r08_Each.mono _ _)
   | (with_reducible exact r08_Made.mono _ _)
   | (with_reducible exact LeO.refl _)
   | (with_reducible exact LeO.none _)
   | (with_reducible refine LeO.ite ?_ ?_)
   | (with_reducible refine LeO.bind ?_ (fun _ => ?_))
   | exact ih0 _ _ _ _ _ _ _ _
   | exact ih1 _ _ _ _ _ _ _ _
   | exact ih2 _ _ _ _ _ _ _ _ _ _
   | exact ih3 _ _ _ _ _ _ _
   | exact l08_blobs.mono _ _ _ _ _
   | exact r08_Blob.mono _ _ _
   | exact r08_Each.mono _ _
   | exact r08_Made.mono _ _
   | exact LeO.none _
   | refine LeO.ite ?_ ?_
   | refine LeO.bind ?_ (fun _ => ?_)
  ·intro y0 y1 y2 y3 y4 y5 y6 y7
   unfold l08_ExtentBytes.j1
   repeat' first
   | (with_reducible exact ih0 _ _ _ _ _ _ _ _)
   | (with_reducible exact ih1 _ _ _ _ _ _ _ _)
   | (with_reducible exact ih2 _ _ _ _ _ _ _ _ _ _)
   | (with_reducible exact ih3 _ _ _ _ _ _ _)
   | (with_reducible exact l08_blobs.mono _ _ _ _ _)
   | (with_reducible exact r08_Blob.mono _ _ _)
   | (with_reducible exact r08_Each.mono _ _)
   | (with_reducible exact r08_Made.mono _ _)
   | (with_reducible exact LeO.refl _)
   | (with_reducible exact LeO.none _)
   | (with_reducible refine LeO.ite ?_ ?_)
   | (with_reducible refine LeO.bind ?_ (fun _ => ?_))
   | exact ih0 _ _ _ _ _ _ _ _
   | exact ih1 _ _ _ _ _ _ _ _
   | exact ih2 _ _ _ _ _ _ _ _ _ _
   | exact ih3 _ _ _ _ _ _ _
   | exact l08_blobs.mono _ _ _ _ _
   | exact r08_Blob.mono _ _ _
   | exact r08_Each.mono _ _
   | exact r08_Made.mono _ _
   | exact LeO.none _
   | refine LeO.ite ?_ ?_
   | refine LeO.bind ?_ (fun _ => ?_)
  ·intro y0 y1 y2 y3 y4 y5 y6 y7 y8 y9
   unfold l08_ExtentBytes.j2
   repeat' first
   | (with_reducible exact ih0 _ _ _ _ _ _ _ _)
   | (with_reducible exact ih1 _ _ _ _ _ _ _ _)
   | (with_reducible exact ih2 _ _ _ _ _ _ _ _ _ _)
   | (with_reducible exact ih3 _ _ _ _ _ _ _)
   | (with_reducible exact l08_blobs.mono _ _ _ _ _)
   | (with_reducible exact r08_Blob.mono _ _ _)
   | (with_reducible exact r08_Each.mono _ _)
   | (with_reducible exact r08_Made.mono _ _)
   | (with_reducible exact LeO.refl _)
   | (with_reducible exact LeO.none _)
   | (with_reducible refine LeO.ite ?_ ?_)
   | (with_reducible refine LeO.bind ?_ (fun _ => ?_))
   | exact ih0 _ _ _ _ _ _ _ _
   | exact ih1 _ _ _ _ _ _ _ _
   | exact ih2 _ _ _ _ _ _ _ _ _ _
   | exact ih3 _ _ _ _ _ _ _
   | exact l08_blobs.mono _ _ _ _ _
   | exact r08_Blob.mono _ _ _
   | exact r08_Each.mono _ _
   | exact r08_Made.mono _ _
   | exact LeO.none _
   | refine LeO.ite ?_ ?_
   | refine LeO.bind ?_ (fun _ => ?_)
  ·intro y0 y1 y2 y3 y4 y5 y6
   unfold l08_ExtentBytes.l1
   repeat' first
   | (with_reducible exact ih0 _ _ _ _ _ _ _ _)
   | (with_reducible exact ih1 _ _ _ _ _ _ _ _)
   | (with_reducible exact ih2 _ _ _ _ _ _ _ _ _ _)
   | (with_reducible exact ih3 _ _ _ _ _ _ _)
   | (with_reducible exact l08_blobs.mono _ _ _ _ _)
   | (with_reducible exact r08_Blob.mono _ _ _)
   | (with_reducible exact r08_Each.mono _ _)
   | (with_reducible exact r08_Made.mono _ _)
   | (with_reducible exact LeO.refl _)
   | (with_reducible exact LeO.none _)
   | (with_reducible refine LeO.ite ?_ ?_)
   | (with_reducible refine LeO.bind ?_ (fun _ => ?_))
   | exact ih0 _ _ _ _ _ _ _ _
   | exact ih1 _ _ _ _ _ _ _ _
   | exact ih2 _ _ _ _ _ _ _ _ _ _
   | exact ih3 _ _ _ _ _ _ _
   | exact l08_blobs.mono _ _ _ _ _
   | exact r08_Blob.mono _ _ _
   | exact r08_Each.mono _ _
   | exact r08_Made.mono _ _
   | exact LeO.none _
   | refine LeO.ite ?_ ?_
   | refine LeO.bind ?_ (fun _ => ?_)
theorem l08_ExtentBytes.mono : ∀ a0 a1 a2 a3 a4 k, LeO (l08_ExtentBytes.f k a0 a1 a2 a3 a4) (l08_ExtentBytes.f (k + 1) a0 a1 a2 a3 a4) := by
 intro a0 a1 a2 a3 a4 k
 obtain ⟨ih0, ih1, ih2, ih3⟩ := l08_ExtentBytes.mono_l k
 unfold l08_ExtentBytes.f
 repeat' first
   | (with_reducible exact ih0 _ _ _ _ _ _ _ _)
   | (with_reducible exact ih1 _ _ _ _ _ _ _ _)
   | (with_reducible exact ih2 _ _ _ _ _ _ _ _ _ _)
   | (with_reducible exact ih3 _ _ _ _ _ _ _)
   | (with_reducible exact l08_blobs.mono _ _ _ _ _)
   | (with_reducible exact r08_Blob.mono _ _ _)
   | (with_reducible exact r08_Each.mono _ _)
   | (with_reducible exact r08_Made.mono _ _)
   | (with_reducible exact LeO.refl _)
   | (with_reducible exact LeO.none _)
   | (with_reducible refine LeO.ite ?_ ?_)
   | (with_reducible refine LeO.bind ?_ (fun _ => ?_))
   | exact ih0 _ _ _ _ _ _ _ _
   | exact ih1 _ _ _ _ _ _ _ _
   | exact ih2 _ _ _ _ _ _ _ _ _ _
   | exact ih3 _ _ _ _ _ _ _
   | exact l08_blobs.mono _ _ _ _ _
   | exact r08_Blob.mono _ _ _
   | exact r08_Each.mono _ _
   | exact r08_Made.mono _ _
   | exact LeO.none _
   | refine LeO.ite ?_ ?_
   | refine LeO.bind ?_ (fun _ => ?_)
set_option maxHeartbeats 8000000 in
set_option maxRecDepth 100000 in
theorem l08_ExtentBytes.calls (k : Nat) (A0 : Option Addr) (c0 : Nat) (l0 : List (S37)) (a1_0 : Int) (a1_1 : Int) (a1_2 : Int) (a1_3 : Int) (r : Bool) (w : World) (hr0 : Kd.C k37 w A0 l0.length l0) (hc0 : l0.length ≤ c0) (hr : r = true) (h : l08_ExtentBytes.f k l0 a1_0 a1_1 a1_2 a1_3 = some r) :
  Calls Try.prog 6 #[.slice A0 l0.length c0, .agg #[.int .u8 a1_0, .int .u8 a1_1, .int .u8 a1_2, .int .u8 a1_3]] w fun e w' => e = .returned (.bool r) ∧ Below w.heap.size w w' := by
 have hu47 := Try.underlying47
 have hu52 := Try.underlying52
 have hu50 := Try.underlying50
 have HR0 := Aside0.mk hr0
 have HC0 := Aside0.mk hc0
 clear hr0 hc0
 have HB := Aside0.mk (Below.refl w.heap.size w)
 have HLAW := Aside0.mk hr
 clear hr
 have H : ((l08_sanity.f).bind fun t246 => ((r08_Made.f k l0).bind fun t247 => ((l08_blobs.f k a1_0 a1_1 a1_2 a1_3).bind fun t250 => ((r08_Each.f k t247).bind fun t253 => ((l08_read.f t247 t250).bind fun bt256 => (l08_ExtentBytes.l0 k t246 t250 t253 (([] : List Int)) 0 0 bt256.1 bt256.2)))))) = some r := h
 clear h
 replace H := Option.bind_eq_some_iff.mp H
 obtain ⟨t246, A30, H⟩ := H
 replace H : ((r08_Made.f k l0).bind fun t247 => ((l08_blobs.f k a1_0 a1_1 a1_2 a1_3).bind fun t250 => ((r08_Each.f k t247).bind fun t253 => ((l08_read.f t247 t250).bind fun bt256 => (l08_ExtentBytes.l0 k t246 t250 t253 (([] : List Int)) 0 0 bt256.1 bt256.2))))) = some r := H
 have A3 := Aside0.mk A30
 clear A30
 replace H := Option.bind_eq_some_iff.mp H
 obtain ⟨t247, A40, H⟩ := H
 replace H : ((l08_blobs.f k a1_0 a1_1 a1_2 a1_3).bind fun t250 => ((r08_Each.f k t247).bind fun t253 => ((l08_read.f t247 t250).bind fun bt256 => (l08_ExtentBytes.l0 k t246 t250 t253 (([] : List Int)) 0 0 bt256.1 bt256.2)))) = some r := H
 have A4 := Aside0.mk A40
 clear A40
 replace H := Option.bind_eq_some_iff.mp H
 obtain ⟨t250, A50, H⟩ := H
 replace H : ((r08_Each.f k t247).bind fun t253 => ((l08_read.f t247 t250).bind fun bt256 => (l08_ExtentBytes.l0 k t246 t250 t253 (([] : List Int)) 0 0 bt256.1 bt256.2))) = some r := H
 have A5 := Aside0.mk A50
 clear A50
 replace H := Option.bind_eq_some_iff.mp H
 obtain ⟨t253, A60, H⟩ := H
 replace H : ((l08_read.f t247 t250).bind fun bt256 => (l08_ExtentBytes.l0 k t246 t250 t253 (([] : List Int)) 0 0 bt256.1 bt256.2)) = some r := H
 have A6 := Aside0.mk A60
 clear A60
 replace H := Option.bind_eq_some_iff.mp H
 obtain ⟨⟨t256, t259⟩, A70, H⟩ := H
 replace H : (l08_ExtentBytes.l0 k t246 t250 t253 (([] : List Int)) 0 0 t256 t259) = some r := H
 have A7 := Aside0.mk A70
 clear A70
 obtain ⟨y261, hy261⟩ : ∃ y_ : List Int, y_ = (([] : List Int)) := ⟨_, rfl⟩
 replace H : (l08_ExtentBytes.l0 k t246 t250 t253 y261 0 0 t256 t259) = some r := by first | (rw [hy261]; with_reducible exact H) | (have H2_ := (Option.bind_some _ _).symm.trans H; rw [hy261]; with_reducible exact H2_) | (have H2_ := (Option.bind_some _ _).symm.trans H; with_reducible exact H2_) | with_reducible exact H | (rw [hy261]; exact H) | exact H
 have Ny261 := Aside0.mk hy261
 clear hy261
 have H' := Aside0.mk H
 clear H
 go_enter Try.func6, Try.ntmps6
 try go_wp2_with (first | ((with_reducible refine gate_dst (N := 3) rfl ?_); (try (refine gate_guard (by rfl) ?_; dsimp only)); refine box_event ?hg (N := 3) ?hd (cs := #[.int .u8 a1_0, .int .u8 a1_1, .int .u8 a1_2, .int .u8 a1_3]) (t := 47) ?hr ?_; (case hd => rfl); (case hg => rfl); (case hr => first | (go_simp; done) | (go_simp; rfl)); intro gb245 hg w8 hbox hb; have n0_ := Aside0.mk (below_step (by repeat (first | (with_reducible first | exact HB.out | apply below_alloc | apply pw_below_drewN | apply below_drew1) | exact HB.out)) hb); have n1_ := Aside0.mk (hbox); have n2_ := Aside0.mk ((by rw [hg]; exact (below_size (by repeat (first | (with_reducible first | exact HB.out | apply below_alloc | apply pw_below_drewN | apply below_drew1) | exact HB.out))) : w.heap.size ≤ gb245)); have n3_ := Aside0.mk ((by rw [hg]; exact (below_size (by repeat (first | (with_reducible first | exact HB.out | apply below_alloc | apply pw_below_drewN | apply below_drew1) | exact HB.out))) : w.heap.size ≤ gb245)); clear HB; have HB := n0_; have BK245 := n1_; have GW245 := n2_; have GE245 := n3_; clear n0_ n1_ n2_ n3_; clear hb hbox hg) | ((with_reducible refine gate_callee (f := 10) rfl ?_); refine goesL_ (some 16) rfl rfl Try.func10 (by kernel_rfl) rfl #[] rfl (by (try simp only [List.map_toArray, List.map_cons, List.map_nil]); first | done | rfl | (simp only [List.length_drop, List.length_take]; rfl)) ?_; (with_reducible refine (l08_sanity.calls  t246 _ A3.out).mono ?_); rintro e w9 ⟨rfl, hb⟩; refine ⟨_, rfl, ?_⟩; have n0_ := Aside0.mk (blk_below (g := gb245) (o := .cells #[.int .u8 a1_0, .int .u8 a1_1, .int .u8 a1_2, .int .u8 a1_3] 47 (0, 0)) (by (with_reducible repeat (first | refine blk_drewN ?_ _ | refine blk_drew ?_ | refine blk_alloc ?_ _)); exact BK245.out) hb); have n1_ := Aside0.mk (below_step (by repeat (first | (with_reducible first | exact HB.out | apply below_alloc | apply pw_below_drewN | apply below_drew1 | refine below_set ?_ GE245.out) | exact HB.out)) hb); clear BK245; clear HB; have BK245 := n0_; have HB := n1_; clear n0_ n1_; (try clear hb); (try clear hb2); (try clear hk); (try clear hi)))
 have n0_ := Aside0.mk (blk_drew BK245.out)
 have n1_ := Aside0.mk (below_drew1 HB.out)
 clear BK245
 clear HB
 have BK245 := n0_
 have HB := n1_
 clear n0_ n1_
 refine start_ (n := 6) (S := fun w' => w'.cell? ⟨gb245, 0, none⟩ = some (.int .u8 a1_0) ∧ w'.cell? ⟨gb245, 1, none⟩ = some (.int .u8 a1_1) ∧ w'.cell? ⟨gb245, 2, none⟩ = some (.int .u8 a1_2) ∧ w'.cell? ⟨gb245, 3, none⟩ = some (.int .u8 a1_3)) (ds := []) #[false, false, false, false, false, false] (by kernel_rfl) rfl rfl ⟨(blk_cell BK245.out 0).trans rfl, (blk_cell BK245.out 1).trans rfl, (blk_cell BK245.out 2).trans rfl, (blk_cell BK245.out 3).trans rfl⟩ (fun hHeld => ?_)
 generalize w9.drew = w10 at BK245 HB hHeld ⊢
 refine pure_ (i := 0) (N := some 17) (v := ?_) (a' := ?_) #[true, false, false, false, false, false] rfl rfl (by kernel_rfl) (fun _ _ _ h => h) (Or.inl ⟨by rfl, ?_⟩) ?_ ?_
 rotate_left
 ·intro w'
  go_simp
  with_reducible rfl
 rotate_left
 ·simp only [Act.put, List.setIfInBounds_toArray, List.set_cons_zero, List.set_cons_succ, i64_w, i32_w]
  rfl
 refine take_ (i := 2) (N := some 19) (v := ?_) (a' := ?_) #[true, false, true, false, false, false] rfl rfl (by kernel_rfl) (fun _ _ _ h => h) (Or.inl ⟨by rfl, ?_⟩) hHeld ?_ ?_
 rotate_left
 ·rintro w' ⟨s0, s1, s2, s3⟩
  go_simp
  with_reducible rfl
 rotate_left
 ·simp only [Act.put, List.setIfInBounds_toArray, List.set_cons_zero, List.set_cons_succ, i64_w, i32_w]
  rfl
 refine one_ (i := 1) (N := some 18) #[true, true, true, false, false, false] rfl rfl (by kernel_rfl) (by decide) (fun K hK => ?_)
 refine goes_ Try.func11 (by kernel_rfl) rfl #[.slice A0 l0.length c0] (by rfl) rfl rfl (by (try simp only [List.map_toArray, List.map_cons, List.map_nil]); first | done | rfl | (simp only [List.length_drop, List.length_take]; rfl)) ?_
 with_reducible refine (r08_Made.calls k _ _ l0 t247 _ ?side1 ?side2 A4.out).mono ?_
 (case side1 => repeat (first | exact (Kd.C_below HR0.out HB.out) | (with_reducible refine Kd.C_alloc ?_ _) | (with_reducible refine Kd.C_drewN ?_ _) | (with_reducible refine Kd.C_drew ?_)))
 (case side2 => exact HC0.out)
 rintro e w11 ⟨v248, rfl, ho0, hb⟩
 refine ⟨_, rfl, ?_⟩
 have n0_ := Aside0.mk (Kd.R_lower ho0 (below_size (by repeat (first | (with_reducible first | exact HB.out | apply below_alloc | apply pw_below_drewN | apply below_drew1 | refine below_set ?_ GE245.out) | exact HB.out))))
 have n1_ := Aside0.mk (blk_below (g := gb245) (o := .cells #[.int .u8 a1_0, .int .u8 a1_1, .int .u8 a1_2, .int .u8 a1_3] 47 (0, 0)) (by (with_reducible repeat (first | refine blk_drewN ?_ _ | refine blk_drew ?_ | refine blk_alloc ?_ _)); exact BK245.out) hb)
 have n2_ := Aside0.mk (below_step (by repeat (first | (with_reducible first | exact HB.out | apply below_alloc | apply pw_below_drewN | apply below_drew1 | refine below_set ?_ GE245.out) | exact HB.out)) hb)
 clear BK245
 clear HB
 have HO249 := n0_
 have BK245 := n1_
 have HB := n2_
 clear n0_ n1_ n2_
 (try clear hb)
 (try clear hb2)
 (try clear hk)
 (try clear hi)
 (try clear ho0)
 refine hK.out _ _ ⟨(blk_cell BK245.out 0).trans rfl, (blk_cell BK245.out 1).trans rfl, (blk_cell BK245.out 2).trans rfl, (blk_cell BK245.out 3).trans rfl⟩ (fun hHeld => ?_)
 clear hK K
 refine norm_ (a' := ?_) ?_ ?_
 rotate_left
 ·show Act.put _ (some 18) _ = _
  simp only [Act.put, List.setIfInBounds_toArray, List.set_cons_zero, List.set_cons_succ, i64_w, i32_w]
  rfl
 refine one_ (i := 3) (N := some 20) #[true, true, true, true, false, false] rfl rfl (by kernel_rfl) (by decide) (fun K hK => ?_)
 refine goes_ Try.func24 (by kernel_rfl) rfl #[.agg #[.int .u8 a1_0, .int .u8 a1_1, .int .u8 a1_2, .int .u8 a1_3]] (by rfl) rfl rfl (by (try simp only [List.map_toArray, List.map_cons, List.map_nil]); first | done | rfl | (simp only [List.length_drop, List.length_take]; rfl)) ?_
 with_reducible refine (l08_blobs.calls k a1_0 a1_1 a1_2 a1_3 t250 _ A5.out).mono ?_
 rintro e w12 ⟨v251, rfl, ho0, hb⟩
 refine ⟨_, rfl, ?_⟩
 have n0_ := Aside0.mk (Kd.R_below (by (with_reducible repeat (first | apply Kd.R_alloc | apply Kd.R_drewN | apply Kd.R_drew)); exact HO249.out) hb)
 have n1_ := Aside0.mk (Kd.S_lower ho0 (below_size (by repeat (first | (with_reducible first | exact HB.out | apply below_alloc | apply pw_below_drewN | apply below_drew1 | refine below_set ?_ GE245.out) | exact HB.out))))
 have n2_ := Aside0.mk (blk_below (g := gb245) (o := .cells #[.int .u8 a1_0, .int .u8 a1_1, .int .u8 a1_2, .int .u8 a1_3] 47 (0, 0)) (by (with_reducible repeat (first | refine blk_drewN ?_ _ | refine blk_drew ?_ | refine blk_alloc ?_ _)); exact BK245.out) hb)
 have n3_ := Aside0.mk (below_step (by repeat (first | (with_reducible first | exact HB.out | apply below_alloc | apply pw_below_drewN | apply below_drew1 | refine below_set ?_ GE245.out) | exact HB.out)) hb)
 clear HO249
 clear BK245
 clear HB
 have HO249 := n0_
 have HO252 := n1_
 have BK245 := n2_
 have HB := n3_
 clear n0_ n1_ n2_ n3_
 (try clear hb)
 (try clear hb2)
 (try clear hk)
 (try clear hi)
 (try clear ho0)
 refine hK.out _ _ ⟨(blk_cell BK245.out 0).trans rfl, (blk_cell BK245.out 1).trans rfl, (blk_cell BK245.out 2).trans rfl, (blk_cell BK245.out 3).trans rfl⟩ (fun hHeld => ?_)
 clear hK K
 refine norm_ (a' := ?_) ?_ ?_
 rotate_left
 ·show Act.put _ (some 20) _ = _
  simp only [Act.put, List.setIfInBounds_toArray, List.set_cons_zero, List.set_cons_succ, i64_w, i32_w]
  rfl
 refine pure_ (i := 4) (N := some 6) (v := ?_) (a' := ?_) #[true, true, true, true, true, false] rfl rfl (by kernel_rfl) (fun _ _ _ h => h) (Or.inl ⟨by rfl, ?_⟩) ?_ ?_
 rotate_left
 ·intro w'
  go_simp
  with_reducible rfl
 rotate_left
 ·simp only [Act.put, List.setIfInBounds_toArray, List.set_cons_zero, List.set_cons_succ, i64_w, i32_w]
  rfl
 refine pure_ (i := 5) (N := some 7) (v := ?_) (a' := ?_) #[true, true, true, true, true, true] rfl rfl (by kernel_rfl) (fun _ _ _ h => h) (Or.inl ⟨by rfl, ?_⟩) ?_ ?_
 rotate_left
 ·intro w'
  go_simp
  with_reducible rfl
 rotate_left
 ·simp only [Act.put, List.setIfInBounds_toArray, List.set_cons_zero, List.set_cons_succ, i64_w, i32_w]
  rfl
 refine done_ (by kernel_rfl) ?_
 obtain ⟨Ao13, co13, eo13⟩ := Kd.R_slice HO249.out
 subst eo13
 try go_wp2_with (first | ((with_reducible refine gate_callee (f := 12) rfl ?_); refine goesL_ (some 22) rfl rfl Try.func12 (by kernel_rfl) rfl #[.slice Ao13 t247.length co13] rfl (by (try simp only [List.map_toArray, List.map_cons, List.map_nil]); first | done | rfl | (simp only [List.length_drop, List.length_take]; rfl)) ?_; (with_reducible refine (r08_Each.calls k _ _ t247 t253 _ ?side1 ?side2 A6.out).mono ?_); (case side1 => repeat (first | exact (Kd.R_reads' HO249.out).2.2 | (with_reducible refine Kd.C_alloc ?_ _) | (with_reducible refine Kd.C_drewN ?_ _) | (with_reducible refine Kd.C_drew ?_))); (case side2 => exact (Kd.R_reads' HO249.out).2.1); rintro e w14 ⟨v254, rfl, ho0, hb⟩; refine ⟨_, rfl, ?_⟩; have n0_ := Aside0.mk (Kd.R_below (by (with_reducible repeat (first | apply Kd.R_alloc | apply Kd.R_drewN | apply Kd.R_drew)); exact HO249.out) hb); have n1_ := Aside0.mk (Kd.S_below (by (with_reducible repeat (first | apply Kd.S_alloc | apply Kd.S_drewN | apply Kd.S_drew)); exact HO252.out) hb); have n2_ := Aside0.mk (Kd.R_lower ho0 (below_size (by repeat (first | (with_reducible first | exact HB.out | apply below_alloc | apply pw_below_drewN | apply below_drew1 | refine below_set ?_ GE245.out) | exact HB.out)))); have n3_ := Aside0.mk (blk_below (g := gb245) (o := .cells #[.int .u8 a1_0, .int .u8 a1_1, .int .u8 a1_2, .int .u8 a1_3] 47 (0, 0)) (by (with_reducible repeat (first | refine blk_drewN ?_ _ | refine blk_drew ?_ | refine blk_alloc ?_ _)); exact BK245.out) hb); have n4_ := Aside0.mk (below_step (by repeat (first | (with_reducible first | exact HB.out | apply below_alloc | apply pw_below_drewN | apply below_drew1 | refine below_set ?_ GE245.out) | exact HB.out)) hb); clear HO249; clear HO252; clear BK245; clear HB; have HO249 := n0_; have HO252 := n1_; have HO255 := n2_; have BK245 := n3_; have HB := n4_; clear n0_ n1_ n2_ n3_ n4_; (try clear hb); (try clear hb2); (try clear hk); (try clear hi); (try clear ho0); obtain ⟨Ao15, co15, eo15⟩ := Kd.S_slice HO252.out; subst eo15) | ((with_reducible refine gate_callee (f := 25) rfl ?_); refine goesL_ (some 25) rfl rfl Try.func25 (by kernel_rfl) rfl #[.slice Ao13 t247.length co13, .slice Ao15 t250.length co15] rfl (by (try simp only [List.map_toArray, List.map_cons, List.map_nil]); first | done | rfl | (simp only [List.length_drop, List.length_take]; rfl)) ?_; (with_reducible refine (l08_read.calls _ _ t247 _ _ t250 t256 t259 _ ?side1 ?side2 ?side3 ?side4 A7.out).mono ?_); (case side1 => repeat (first | exact (Kd.R_reads' HO249.out).2.2 | (with_reducible refine Kd.C_alloc ?_ _) | (with_reducible refine Kd.C_drewN ?_ _) | (with_reducible refine Kd.C_drew ?_))); (case side2 => exact (Kd.R_reads' HO249.out).2.1); (case side3 => repeat (first | exact (Kd.S_reads' HO252.out).2.2 | (with_reducible refine Kd.C_alloc ?_ _) | (with_reducible refine Kd.C_drewN ?_ _) | (with_reducible refine Kd.C_drew ?_))); (case side4 => exact (Kd.S_reads' HO252.out).2.1); rintro e w16 ⟨v257, rfl, ho0, hb⟩; refine ⟨_, rfl, ?_⟩; have n0_ := Aside0.mk (Kd.R_below (by (with_reducible repeat (first | apply Kd.R_alloc | apply Kd.R_drewN | apply Kd.R_drew)); exact HO249.out) hb); have n1_ := Aside0.mk (Kd.S_elder' (by (with_reducible repeat (first | apply Kd.S_alloc | apply Kd.S_drewN | apply Kd.S_drew)); exact HO252.out) (Kd.R_base ho0) hb); have n2_ := Aside0.mk (Kd.R_below (by (with_reducible repeat (first | apply Kd.R_alloc | apply Kd.R_drewN | apply Kd.R_drew)); exact HO255.out) hb); have n3_ := Aside0.mk (Kd.R_lower ho0 (below_size (by repeat (first | (with_reducible first | exact HB.out | apply below_alloc | apply pw_below_drewN | apply below_drew1 | refine below_set ?_ GE245.out) | exact HB.out)))); have n4_ := Aside0.mk (blk_below (g := gb245) (o := .cells #[.int .u8 a1_0, .int .u8 a1_1, .int .u8 a1_2, .int .u8 a1_3] 47 (0, 0)) (by (with_reducible repeat (first | refine blk_drewN ?_ _ | refine blk_drew ?_ | refine blk_alloc ?_ _)); exact BK245.out) hb); have n5_ := Aside0.mk (below_step (by repeat (first | (with_reducible first | exact HB.out | apply below_alloc | apply pw_below_drewN | apply below_drew1 | refine below_set ?_ GE245.out) | exact HB.out)) hb); clear HO249; clear HO252; clear HO255; clear BK245; clear HB; have HO249 := n0_; have HO252 := n1_; have HO255 := n2_; have HO258 := n3_; have BK245 := n4_; have HB := n5_; clear n0_ n1_ n2_ n3_ n4_ n5_; (try clear hb); (try clear hb2); (try clear hk); (try clear hi); (try clear ho0)) | ((with_reducible refine gate_dst (N := 9) rfl ?_); (try (refine gate_guard (by rfl) ?_; dsimp only)); refine box_event ?hg (N := 9) ?hd (cs := #[.slice none 0 0, .int .i64 0]) (t := 52) ?hr ?_; (case hd => rfl); (case hg => rfl); (case hr => first | (go_simp; done) | (go_simp; rfl)); intro gb260 hg w17 hbox hb; have n0_ := Aside0.mk (Kd.R_below (by (with_reducible repeat (first | apply Kd.R_alloc | apply Kd.R_drewN | apply Kd.R_drew)); exact HO249.out) hb); have n1_ := Aside0.mk (Kd.S_below (by (with_reducible repeat (first | apply Kd.S_alloc | apply Kd.S_drewN | apply Kd.S_drew)); exact HO252.out) hb); have n2_ := Aside0.mk (Kd.R_below (by (with_reducible repeat (first | apply Kd.R_alloc | apply Kd.R_drewN | apply Kd.R_drew)); exact HO255.out) hb); have n3_ := Aside0.mk (Kd.R_below (by (with_reducible repeat (first | apply Kd.R_alloc | apply Kd.R_drewN | apply Kd.R_drew)); exact HO258.out) hb); have n4_ := Aside0.mk (blk_below (g := gb245) (o := .cells #[.int .u8 a1_0, .int .u8 a1_1, .int .u8 a1_2, .int .u8 a1_3] 47 (0, 0)) (by (with_reducible repeat (first | refine blk_drewN ?_ _ | refine blk_drew ?_ | refine blk_alloc ?_ _)); exact BK245.out) hb); have n5_ := Aside0.mk (below_step (by repeat (first | (with_reducible first | exact HB.out | apply below_alloc | apply pw_below_drewN | apply below_drew1 | refine below_set ?_ GE245.out) | exact HB.out)) hb); have n6_ := Aside0.mk (hbox); have n7_ := Aside0.mk ((by rw [hg]; exact (below_size (by repeat (first | (with_reducible first | exact HB.out | apply below_alloc | apply pw_below_drewN | apply below_drew1 | refine below_set ?_ GE245.out) | exact HB.out))) : w.heap.size ≤ gb260)); have n8_ := Aside0.mk ((by rw [hg]; exact (below_size (by repeat (first | (with_reducible first | exact HB.out | apply below_alloc | apply pw_below_drewN | apply below_drew1 | refine below_set ?_ GE245.out) | exact HB.out))) : w.heap.size ≤ gb260)); have n9_ := Aside0.mk ((by rw [hg]; exact Nat.ne_of_lt (blk_lt (g := gb245) (o := .cells #[.int .u8 a1_0, .int .u8 a1_1, .int .u8 a1_2, .int .u8 a1_3] 47 (0, 0)) (by (with_reducible repeat (first | refine blk_drewN ?_ _ | refine blk_drew ?_ | refine blk_alloc ?_ _)); exact BK245.out)) : gb245 ≠ gb260)); have n10_ := Aside0.mk ((by rw [hg]; exact Nat.ne_of_gt (blk_lt (g := gb245) (o := .cells #[.int .u8 a1_0, .int .u8 a1_1, .int .u8 a1_2, .int .u8 a1_3] 47 (0, 0)) (by (with_reducible repeat (first | refine blk_drewN ?_ _ | refine blk_drew ?_ | refine blk_alloc ?_ _)); exact BK245.out)) : gb260 ≠ gb245)); clear HO249; clear HO252; clear HO255; clear HO258; clear BK245; clear HB; have HO249 := n0_; have HO252 := n1_; have HO255 := n2_; have HO258 := n3_; have BK245 := n4_; have HB := n5_; have BK260 := n6_; have GW260 := n7_; have GE260 := n8_; have NB245_260 := n9_; have NB260_245 := n10_; clear n0_ n1_ n2_ n3_ n4_ n5_ n6_ n7_ n8_ n9_ n10_; clear hb hbox hg; obtain ⟨Ao18, co18, eo18⟩ := Kd.R_slice HO258.out; subst eo18; have hnb19 := NB260_245.out; have hnc19 := NB245_260.out; have hcz20_0 : w17.cell? ⟨gb260, 0, none⟩ = some (.slice none 0 0) := (blk_cell BK260.out 0).trans rfl; have hcz20_1 : w17.cell? ⟨gb260, 1, none⟩ = some (.int .i64 0) := (blk_cell BK260.out 1).trans rfl; have hfz20_0 := blk_frozen BK260.out 0; have hfz20_1 := blk_frozen BK260.out 1) | ((with_reducible refine gate_dst (N := 26) rfl ?_); (try (refine gate_guard (by rfl) ?_; dsimp only)); refine Kd.R_lit (Kd.int .u8) _ 5 ?hg (N := 26) ?hd (xs := ([] : List Int)) (inner := []) (ok := fun _ => True) (okp := fun _ => True) ?hr ?hp (fun _ hk => hk) trivial (Below.refl _ _) (Nat.le_refl _) (by simp) ?_; (case hd => rfl); (case hg => rfl); (case hr => first | (go_simp; done) | (go_simp; rfl)); (case hp => exact (Reps.none _ _)); intro v262 w21 ho22 hb hg_ hnew_; clear hg_ hnew_; (first | rw [← Ny261.out] at ho22 | (simp only [Int.reduceToNat] at ho22; rw [← Ny261.out] at ho22)); have n0_ := Aside0.mk (Kd.R_below (by (with_reducible repeat (first | apply Kd.R_alloc | apply Kd.R_drewN | apply Kd.R_drew)); exact (Kd.R_mono (Kd.R_far (p := ⟨gb260, 1, none⟩) (Kd.R_far (p := ⟨gb260, 0, none⟩) (Kd.R_types HO249.out BK260.out (by decide)) (fun _ hk => hk.2) (.slice Ao18 t256.length co18)) (fun _ hk => hk.2) (.int .i64 t259)) (fun _ h_ => h_.1))) hb); have n1_ := Aside0.mk (Kd.S_elder' (by (with_reducible repeat (first | apply Kd.S_alloc | apply Kd.S_drewN | apply Kd.S_drew)); exact (Kd.S_mono (Kd.S_far (p := ⟨gb260, 1, none⟩) (Kd.S_far (p := ⟨gb260, 0, none⟩) (Kd.S_types HO252.out BK260.out (by decide)) (fun _ hk => hk.2) (.slice Ao18 t256.length co18)) (fun _ hk => hk.2) (.int .i64 t259)) (fun _ h_ => h_.1))) (Kd.R_base ho22) hb); have n2_ := Aside0.mk (Kd.R_below (by (with_reducible repeat (first | apply Kd.R_alloc | apply Kd.R_drewN | apply Kd.R_drew)); exact (Kd.R_mono (Kd.R_far (p := ⟨gb260, 1, none⟩) (Kd.R_far (p := ⟨gb260, 0, none⟩) (Kd.R_types HO255.out BK260.out (by decide)) (fun _ hk => hk.2) (.slice Ao18 t256.length co18)) (fun _ hk => hk.2) (.int .i64 t259)) (fun _ h_ => h_.1))) hb); have n3_ := Aside0.mk (Kd.R_elder' (by (with_reducible repeat (first | apply Kd.R_alloc | apply Kd.R_drewN | apply Kd.R_drew)); exact (Kd.R_mono (Kd.R_far (p := ⟨gb260, 1, none⟩) (Kd.R_far (p := ⟨gb260, 0, none⟩) (Kd.R_types HO258.out BK260.out (by decide)) (fun _ hk => hk.2) (.slice Ao18 t256.length co18)) (fun _ hk => hk.2) (.int .i64 t259)) (fun _ h_ => h_.1))) (Kd.R_base ho22) hb); have n4_ := Aside0.mk (Kd.R_lower (Kd.R_new' ho22 (Kd.R_lt (by (with_reducible repeat (first | apply Kd.R_alloc | apply Kd.R_drewN | apply Kd.R_drew)); exact (Kd.R_mono (Kd.R_far (p := ⟨gb260, 1, none⟩) (Kd.R_far (p := ⟨gb260, 0, none⟩) (Kd.R_types HO258.out BK260.out (by decide)) (fun _ hk => hk.2) (.slice Ao18 t256.length co18)) (fun _ hk => hk.2) (.int .i64 t259)) (fun _ h_ => h_.1))))) (below_size (by repeat (first | (with_reducible first | exact HB.out | apply below_alloc | apply pw_below_drewN | apply below_drew1 | refine below_set ?_ GE245.out | refine below_set ?_ GE260.out) | exact HB.out)))); have n5_ := Aside0.mk (blk_below (g := gb245) (o := .cells #[.int .u8 a1_0, .int .u8 a1_1, .int .u8 a1_2, .int .u8 a1_3] 47 (0, 0)) (by (with_reducible repeat (first | refine blk_drewN ?_ _ | refine blk_drew ?_ | refine blk_alloc ?_ _)); refine blk_far ?_ NB245_260.out _; (with_reducible repeat (first | refine blk_drewN ?_ _ | refine blk_drew ?_ | refine blk_alloc ?_ _)); refine blk_far ?_ NB245_260.out _; (with_reducible repeat (first | refine blk_drewN ?_ _ | refine blk_drew ?_ | refine blk_alloc ?_ _)); exact BK245.out) hb); have n6_ := Aside0.mk (blk_below (g := gb260) (o := .cells #[.slice Ao18 t256.length co18, .int .i64 t259] 52 (0, 0)) (by (with_reducible repeat (first | refine blk_drewN ?_ _ | refine blk_drew ?_ | refine blk_alloc ?_ _)); refine blk_put (cs := #[.slice Ao18 t256.length co18, .int .i64 0]) ?_ 1 _ rfl; (with_reducible repeat (first | refine blk_drewN ?_ _ | refine blk_drew ?_ | refine blk_alloc ?_ _)); refine blk_put (cs := #[.slice none 0 0, .int .i64 0]) ?_ 0 _ rfl; (with_reducible repeat (first | refine blk_drewN ?_ _ | refine blk_drew ?_ | refine blk_alloc ?_ _)); exact BK260.out) hb); have n7_ := Aside0.mk (below_step (by repeat (first | (with_reducible first | exact HB.out | apply below_alloc | apply pw_below_drewN | apply below_drew1 | refine below_set ?_ GE245.out | refine below_set ?_ GE260.out) | exact HB.out)) hb); clear HO249; clear HO252; clear HO255; clear HO258; clear BK245; clear BK260; clear HB; have HO249 := n0_; have HO252 := n1_; have HO255 := n2_; have HO258 := n3_; have HO263 := n4_; have BK245 := n5_; have BK260 := n6_; have HB := n7_; clear n0_ n1_ n2_ n3_ n4_ n5_ n6_ n7_; clear hb ho22))
 go_loopg [10, 11, 12] k (fun kq v10 v11 v12 w' => ∃ (x10_1 : List Int) (x11_1 : Int) (x12_1 : Int), v11 = .int .i64 x11_1 ∧ v12 = .int .i64 x12_1 ∧ Aside0 (l08_ExtentBytes.l0 kq t246 t250 t253 x10_1 x11_1 x12_1 t256 t259 = some r) ∧ Aside0 (kq ≤ k) ∧ Aside0 (Kd.S k69 69 w' w.heap.size (fun k_ => some k_ ≠ (v10 : Value).ownBlock ∧ some k_ ≠ ((.slice Ao18 t256.length co18) : Value).ownBlock) (.slice Ao15 t250.length co15) t250) ∧ Aside0 (Kd.R k32 32 w' w.heap.size (fun _ => True) v254 t253) ∧ Aside0 (Kd.R (Kd.int .u8) 5 w' w.heap.size (fun k_ => some k_ ≠ ((.slice Ao18 t256.length co18) : Value).ownBlock) v10 x10_1) ∧ Aside0 (Kd.R (Kd.int .u8) 5 w' w.heap.size (fun k_ => some k_ ≠ (v10 : Value).ownBlock) (.slice Ao18 t256.length co18) t256) ∧ Aside0 (w'.heap[gb245]? = some (.cells #[.int .u8 a1_0, .int .u8 a1_1, .int .u8 a1_2, .int .u8 a1_3] 47 (0, 0))) ∧ Aside0 (w'.heap[gb260]? = some (.cells #[(.slice Ao18 t256.length co18), .int .i64 t259] 52 (0, 0))) ∧ Aside0 (Below w.heap.size w w'))
 case atStart => exact ⟨(y261), (0), (0), (by first | rfl | (simp; done) | (simp [*]; done)), (by first | rfl | (simp; done) | (simp [*]; done)), H', ⟨Nat.le_refl _⟩, ⟨by (with_reducible repeat (first | apply Kd.S_alloc | apply Kd.S_drewN | apply Kd.S_drew)); exact Kd.S_mono HO252.out (fun _ hk => ⟨hk.2, hk.1.2⟩)⟩, ⟨by (with_reducible repeat (first | apply Kd.R_alloc | apply Kd.R_drewN | apply Kd.R_drew)); exact HO255.out⟩, ⟨by (with_reducible repeat (first | apply Kd.R_alloc | apply Kd.R_drewN | apply Kd.R_drew)); exact Kd.R_mono HO263.out (fun _ hk => hk.2)⟩, ⟨by (with_reducible repeat (first | apply Kd.R_alloc | apply Kd.R_drewN | apply Kd.R_drew)); exact Kd.R_mono HO258.out (fun _ hk => hk.2)⟩, ⟨by (with_reducible repeat (first | refine blk_drewN ?_ _ | refine blk_drew ?_ | refine blk_alloc ?_ _)); exact BK245.out⟩, ⟨by (with_reducible repeat (first | refine blk_drewN ?_ _ | refine blk_drew ?_ | refine blk_alloc ?_ _)); exact BK260.out⟩, ⟨by repeat (first | (with_reducible first | exact HB.out | apply below_alloc | apply pw_below_drewN | apply below_drew1 | refine below_set ?_ GE245.out | refine below_set ?_ GE260.out) | exact HB.out)⟩⟩
 case round =>
  clear H'
  try clear c1
  try clear c2
  try clear p2
  try clear c6
  try clear c10
  try clear c11
  try clear c12
  try clear c19
  try clear hcz20_0
  try clear hcz20_1
  try clear hfz20_0
  try clear hfz20_1
  obtain ⟨x10_1, x11_1, x12_1, rfl, rfl, HA, HK1, HO_7, HO_8, HO_10, HO_261000, BK245, BK260, HB⟩ := hrel
  cases gk with
  | zero => exact absurd HA.out (by simp [l08_ExtentBytes.l0])
  | succ k1 =>
   have H := HA.out
   clear HA
   simp only [l08_ExtentBytes.l0] at H
   by_cases c23 : x12_1 < (t253.length : Int)
   ·rw [if_pos c23] at H
    have c23b0 : decide (x12_1 < (t253.length : Int)) = true := decide_eq_true c23
    clear c23
    by_cases c24 : 0 ≤ x12_1
    ·rw [if_pos c24] at H
     have c24b0 : decide (0 ≤ x12_1) = true := decide_eq_true c24
     clear c24
     have HC25 := Aside0.mk H
     clear H
     obtain ⟨Ao26, co26, eo26⟩ := Kd.R_slice HO_8.out
     subst eo26
     have p264 : 0 ≤ (x12_1 : Int) := of_decide_eq_true (by first | (with_reducible assumption) | assumption)
     have q264 : x12_1 < (t253.length : Int) := of_decide_eq_true (by first | (with_reducible assumption) | assumption)
     obtain ⟨ad264, e264, hx264_0, hx264_1⟩ := at_T32 (Kd.R_reads' HO_8.out).2.2 x12_1 p264 q264
     cases e264
     replace p264 := eq_true p264
     replace q264 := eq_true q264
     go_upto_if 38 with (fail)
     go_cut [11] (fun v11 wc => ∃ (kq : Nat) (x11_24 : Int), v11 = .int .i64 x11_24 ∧ Aside0 (l08_ExtentBytes.j1 kq t246 t250 t253 x10_1 x11_24 x12_1 t256 t259 = some r) ∧ Aside0 (kq ≤ k1) ∧ Aside0 (Kd.S k69 69 wc w.heap.size (fun k_ => some k_ ≠ (u10 : Value).ownBlock ∧ some k_ ≠ ((.slice Ao18 t256.length co18) : Value).ownBlock) (.slice Ao15 t250.length co15) t250) ∧ Aside0 (Kd.R k32 32 wc w.heap.size (fun _ => True) (.slice (some ad264) t253.length co26) t253) ∧ Aside0 (Kd.R (Kd.int .u8) 5 wc w.heap.size (fun k_ => some k_ ≠ ((.slice Ao18 t256.length co18) : Value).ownBlock) u10 x10_1) ∧ Aside0 (Kd.R (Kd.int .u8) 5 wc w.heap.size (fun k_ => some k_ ≠ (u10 : Value).ownBlock) (.slice Ao18 t256.length co18) t256) ∧ Aside0 (wc.heap[gb245]? = some (.cells #[.int .u8 a1_0, .int .u8 a1_1, .int .u8 a1_2, .int .u8 a1_3] 47 (0, 0))) ∧ Aside0 (wc.heap[gb260]? = some (.cells #[(.slice Ao18 t256.length co18), .int .i64 t259] 52 (0, 0))) ∧ Aside0 (Below w.heap.size w wc))
     case first =>
      have H := HC25.out
      clear HC25
      by_cases c27 : ((rd_T32 t253 x12_1).f0) = (-1)
      ·rw [if_pos c27] at H
       have c27b0 : (((rd_T32 t253 x12_1).f0) == (-1)) = true := beq_iff_eq.mpr c27
       have c27b1 : (((rd_T32 t253 x12_1).f0) != (-1)) = false := bne_eq_false_iff_eq.mpr c27
       clear c27
       (first | rw [c27b0] | (simp only [i64_w, i32_w]; rw [c27b0]) | skip)
       have H' := Aside0.mk H
       clear H
       go_wp2
       go_meet
       case rel => exact ⟨_, (60), (by first | rfl | (simp; done) | (simp [*]; done)), H', ⟨by have := HK1.out; first | omega | exact Nat.le_refl _⟩, ⟨by (with_reducible repeat (first | apply Kd.S_alloc | apply Kd.S_drewN | apply Kd.S_drew)); exact HO_7.out⟩, ⟨by (with_reducible repeat (first | apply Kd.R_alloc | apply Kd.R_drewN | apply Kd.R_drew)); exact HO_8.out⟩, ⟨by (with_reducible repeat (first | apply Kd.R_alloc | apply Kd.R_drewN | apply Kd.R_drew)); exact HO_10.out⟩, ⟨by (with_reducible repeat (first | apply Kd.R_alloc | apply Kd.R_drewN | apply Kd.R_drew)); exact HO_261000.out⟩, ⟨by (with_reducible repeat (first | refine blk_drewN ?_ _ | refine blk_drew ?_ | refine blk_alloc ?_ _)); exact BK245.out⟩, ⟨by (with_reducible repeat (first | refine blk_drewN ?_ _ | refine blk_drew ?_ | refine blk_alloc ?_ _)); exact BK260.out⟩, ⟨by repeat (first | (with_reducible first | exact HB.out | apply below_alloc | apply pw_below_drewN | apply below_drew1 | refine below_set ?_ GE245.out | refine below_set ?_ GE260.out) | exact HB.out)⟩⟩
      ·rw [if_neg c27] at H
       have c27b0 : (((rd_T32 t253 x12_1).f0) == (-1)) = false := beq_eq_false_iff_ne.mpr c27
       have c27b1 : (((rd_T32 t253 x12_1).f0) != (-1)) = true := bne_iff_ne.mpr c27
       (first | rw [c27b0] | (simp only [i64_w, i32_w]; rw [c27b0]) | skip)
       have H' := Aside0.mk H
       clear H
       go_wp2
       go_meet
       case rel => exact ⟨_, (x11_1), (by first | rfl | (simp; done) | (simp [*]; done)), H', ⟨by have := HK1.out; first | omega | exact Nat.le_refl _⟩, ⟨by (with_reducible repeat (first | apply Kd.S_alloc | apply Kd.S_drewN | apply Kd.S_drew)); exact HO_7.out⟩, ⟨by (with_reducible repeat (first | apply Kd.R_alloc | apply Kd.R_drewN | apply Kd.R_drew)); exact HO_8.out⟩, ⟨by (with_reducible repeat (first | apply Kd.R_alloc | apply Kd.R_drewN | apply Kd.R_drew)); exact HO_10.out⟩, ⟨by (with_reducible repeat (first | apply Kd.R_alloc | apply Kd.R_drewN | apply Kd.R_drew)); exact HO_261000.out⟩, ⟨by (with_reducible repeat (first | refine blk_drewN ?_ _ | refine blk_drew ?_ | refine blk_alloc ?_ _)); exact BK245.out⟩, ⟨by (with_reducible repeat (first | refine blk_drewN ?_ _ | refine blk_drew ?_ | refine blk_alloc ?_ _)); exact BK260.out⟩, ⟨by repeat (first | (with_reducible first | exact HB.out | apply below_alloc | apply pw_below_drewN | apply below_drew1 | refine below_set ?_ GE245.out | refine below_set ?_ GE260.out) | exact HB.out)⟩⟩
     case rest =>
      clear HC25
      try clear c1
      try clear c2
      try clear p2
      try clear q2
      try clear hx2
      try clear c6
      try clear c10
      try clear c11
      try clear c12
      try clear c19
      try clear c23
      try clear c23b0
      try clear c24
      try clear c24b0
      try clear c25
      try clear p26
      try clear q26
      try clear hx26
      try clear c27
      try clear c27b0
      try clear c27b1
      try clear hcz20_0
      try clear hcz20_1
      try clear hfz20_0
      try clear hfz20_1
      try clear hx264_0
      try clear hx264_1
      try clear p2
      try clear p264
      try clear q264
      obtain ⟨kq, x11_24, rfl, HA, HJ24, HO_7, HO_8, HO_10, HO_261000, BK245, BK260, HB⟩ := hcut
      cases kq with
      | zero => exact absurd HA.out (by simp [l08_ExtentBytes.j1])
      | succ kj24 =>
       have H := HA.out
       clear HA
       simp only [l08_ExtentBytes.j1] at H
       by_cases c28 : 0 ≤ x12_1
       ·rw [if_pos c28] at H
        have c28b0 : decide (0 ≤ x12_1) = true := decide_eq_true c28
        clear c28
        by_cases c29 : x12_1 < (t253.length : Int)
        ·rw [if_pos c29] at H
         have c29b0 : decide (x12_1 < (t253.length : Int)) = true := decide_eq_true c29
         clear c29
         by_cases c30 : ((rd_T32 t253 x12_1).f0) ≤ 0
         ·rw [if_pos c30] at H
          have c30b0 : decide (((rd_T32 t253 x12_1).f0) ≤ 0) = true := decide_eq_true c30
          clear c30
          by_cases c31 : x10_1.length < 140737488355328
          ·rw [if_pos c31] at H
           have LMc31 := Aside0.mk c31
           clear c31
           obtain ⟨y266, hy266⟩ : ∃ y_ : List Int, y_ = (x10_1 ++ [0]) := ⟨_, rfl⟩
           replace H : (l08_ExtentBytes.l0 kj24 t246 t250 t253 y266 x11_24 (wrap64 (x12_1 + 1)) t256 t259) = some r := by first | (rw [hy266]; with_reducible exact H) | (have H2_ := (Option.bind_some _ _).symm.trans H; rw [hy266]; with_reducible exact H2_) | (have H2_ := (Option.bind_some _ _).symm.trans H; with_reducible exact H2_) | with_reducible exact H | (rw [hy266]; exact H) | exact H
           have Ny266 := Aside0.mk hy266
           clear hy266
           have H' := Aside0.mk H
           clear H
           have p265 : 0 ≤ (x12_1 : Int) := of_decide_eq_true (by first | (with_reducible assumption) | assumption)
           have q265 : x12_1 < (t253.length : Int) := of_decide_eq_true (by first | (with_reducible assumption) | assumption)
           obtain ⟨ad265, e265, hx265_0, hx265_1⟩ := at_T32 (Kd.R_reads' HO_8.out).2.2 x12_1 p265 q265
           obtain rfl : ad264 = ad265 := (by injection e265)
           replace p265 := eq_true p265
           replace q265 := eq_true q265
           go_wp2_with (first | ((with_reducible refine gate_builtin (b := .append) (xs := #[.tmp 45, .tmp 46]) rfl ?_); (try (refine gate_guard (by rfl) ?_; dsimp only)); at_builtin; refine Kd.R_append (Kd.int .u8) (w0 := w) w.heap.size rfl (.tmp 45) (.tmp 46) 50 5 (.int .u8 0) 1 rfl Try.underlying50 info5 rfl (by decide) (by omega) u10 x10_1 0 [.int .u8 0] (fun k_ => some k_ ≠ (.slice Ao18 t256.length co18 : Value).ownBlock) (fun _ => False) rfl rfl ?aP (fun _ hk => hk.elim) ?aF ?aO ?aB ?aS ?aL ?_; (case aP => exact rfl); (case aB => exact (by repeat (first | (with_reducible first | exact HB.out | apply below_alloc | apply pw_below_drewN | apply below_drew1 | refine below_set ?_ GE245.out | refine below_set ?_ GE260.out) | exact HB.out))); (case aF => exact (fun k_ hk => Kd.fresh' (Kd.R_lt (by (with_reducible repeat (first | apply Kd.R_alloc | apply Kd.R_drewN | apply Kd.R_drew)); exact HO_261000.out)) k_ hk)); (case aO => exact (by (with_reducible repeat (first | apply Kd.R_alloc | apply Kd.R_drewN | apply Kd.R_drew)); exact HO_10.out)); (case aS => exact (below_size (by repeat (first | (with_reducible first | exact HB.out | apply below_alloc | apply pw_below_drewN | apply below_drew1 | refine below_set ?_ GE245.out | refine below_set ?_ GE260.out) | exact HB.out)))); (case aL => have := LMc31.out; omega); intro v267 w32 ho hb hg hat; rw [← Ny266.out] at ho; have n0_ := Aside0.mk (Kd.S_after (ok := (fun k_ => some k_ ≠ (.slice Ao18 t256.length co18 : Value).ownBlock)) (by (with_reducible repeat (first | apply Kd.S_alloc | apply Kd.S_drewN | apply Kd.S_drew)); exact Kd.S_mono HO_7.out (fun _ hk => ⟨hk.2, hk.1⟩)) hg hat); have n1_ := Aside0.mk (Kd.R_over' (by (with_reducible repeat (first | apply Kd.R_alloc | apply Kd.R_drewN | apply Kd.R_drew)); exact HO_8.out) (Kd.R_typed (by (with_reducible repeat (first | apply Kd.R_alloc | apply Kd.R_drewN | apply Kd.R_drew)); exact HO_10.out)) (by decide) hg); have n2_ := Aside0.mk (Kd.R_after (ok := (fun _ => True)) (by (with_reducible repeat (first | apply Kd.R_alloc | apply Kd.R_drewN | apply Kd.R_drew)); exact Kd.R_mono HO_261000.out (fun _ hk => ⟨trivial, hk⟩)) hg hat); have n3_ := Aside0.mk (blk_grown (g := gb245) (o := .cells #[.int .u8 a1_0, .int .u8 a1_1, .int .u8 a1_2, .int .u8 a1_3] 47 (0, 0)) (by (with_reducible repeat (first | refine blk_drewN ?_ _ | refine blk_drew ?_ | refine blk_alloc ?_ _)); exact BK245.out) hg (Kd.R_ne HO_10.out BK245.out (by decide))); have n4_ := Aside0.mk (blk_grown (g := gb260) (o := .cells #[.slice Ao18 t256.length co18, .int .i64 t259] 52 (0, 0)) (by (with_reducible repeat (first | refine blk_drewN ?_ _ | refine blk_drew ?_ | refine blk_alloc ?_ _)); exact BK260.out) hg (Kd.R_ne HO_10.out BK260.out (by decide))); have n5_ := Aside0.mk (hb); have n6_ := Aside0.mk (ho); clear HO_7; clear HO_8; clear HO_261000; clear BK245; clear BK260; clear HB; clear HO_10; have HO_7 := n0_; have HO_8 := n1_; have HO_261000 := n2_; have BK245 := n3_; have BK260 := n4_; have HB := n5_; have HO268 := n6_; clear n0_ n1_ n2_ n3_ n4_ n5_ n6_; clear ho hb hg hat))
           go_roundg kj24
           case measure => have := HK1.out; have := HJ24.out; omega
           case rel => exact ⟨(y266), (x11_24), (wrap64 (x12_1 + 1)), (by first | rfl | (simp; done) | (simp [*]; done)), (by first | rfl | (simp; done) | (simp [*]; done)), H', ⟨by have := HK1.out; have := HJ24.out; omega⟩, ⟨by (with_reducible repeat (first | apply Kd.S_alloc | apply Kd.S_drewN | apply Kd.S_drew)); exact Kd.S_mono HO_7.out (fun _ hk => ⟨hk.2, hk.1⟩)⟩, ⟨by (with_reducible repeat (first | apply Kd.R_alloc | apply Kd.R_drewN | apply Kd.R_drew)); exact HO_8.out⟩, ⟨by (with_reducible repeat (first | apply Kd.R_alloc | apply Kd.R_drewN | apply Kd.R_drew)); exact HO268.out⟩, ⟨by (with_reducible repeat (first | apply Kd.R_alloc | apply Kd.R_drewN | apply Kd.R_drew)); exact Kd.R_mono HO_261000.out (fun _ hk => hk.2)⟩, ⟨by (with_reducible repeat (first | refine blk_drewN ?_ _ | refine blk_drew ?_ | refine blk_alloc ?_ _)); exact BK245.out⟩, ⟨by (with_reducible repeat (first | refine blk_drewN ?_ _ | refine blk_drew ?_ | refine blk_alloc ?_ _)); exact BK260.out⟩, ⟨by repeat (first | (with_reducible first | exact HB.out | apply below_alloc | apply pw_below_drewN | apply below_drew1 | refine below_set ?_ GE245.out | refine below_set ?_ GE260.out) | exact HB.out)⟩⟩
          ·rw [if_neg c31] at H
           exact absurd H (by simp)
         ·rw [if_neg c30] at H
          have c30b0 : decide (((rd_T32 t253 x12_1).f0) ≤ 0) = false := decide_eq_false c30
          clear c30
          replace H := Option.bind_eq_some_iff.mp H
          obtain ⟨⟨t270, t273⟩, A330, H⟩ := H
          replace H : (if t273 = true then (l08_ExtentBytes.j2 kj24 t246 t250 t253 x10_1 x11_24 x12_1 t270 (decide (((rd_T32 t253 x12_1).f1) ≥ (t270.length : Int))) t256 t259) else (l08_ExtentBytes.j2 kj24 t246 t250 t253 x10_1 x11_24 x12_1 t270 true t256 t259)) = some r := H
          have A33 := Aside0.mk A330
          clear A330
          have HC34 := Aside0.mk H
          clear H
          have p265 : 0 ≤ (x12_1 : Int) := of_decide_eq_true (by first | (with_reducible assumption) | assumption)
          have q265 : x12_1 < (t253.length : Int) := of_decide_eq_true (by first | (with_reducible assumption) | assumption)
          obtain ⟨ad265, e265, hx265_0, hx265_1⟩ := at_T32 (Kd.R_reads' HO_8.out).2.2 x12_1 p265 q265
          obtain rfl : ad264 = ad265 := (by injection e265)
          replace p265 := eq_true p265
          replace q265 := eq_true q265
          have p269 : 0 ≤ (x12_1 : Int) := of_decide_eq_true (by first | (with_reducible assumption) | assumption)
          have q269 : x12_1 < (t253.length : Int) := of_decide_eq_true (by first | (with_reducible assumption) | assumption)
          obtain ⟨ad269, e269, hx269_0, hx269_1⟩ := at_T32 (Kd.R_reads' HO_8.out).2.2 x12_1 p269 q269
          obtain rfl : ad264 = ad269 := (by injection e269)
          replace p269 := eq_true p269
          replace q269 := eq_true q269
          go_upto_region 13 with (first | ((with_reducible refine gate_callee (f := 26) rfl ?_); refine goesL_ (some 55) rfl rfl Try.func26 (by kernel_rfl) rfl #[.slice Ao15 t250.length co15, .int .i64 ((rd_T32 t253 x12_1).f0)] rfl (by (try simp only [List.map_toArray, List.map_cons, List.map_nil]); first | done | rfl | (simp only [List.length_drop, List.length_take]; rfl)) ?_; (with_reducible refine (r08_Blob.calls kj24 (fun k_ => ((((some k_ ≠ (u10 : Value).ownBlock ∧ some k_ ≠ (.slice Ao18 t256.length co18 : Value).ownBlock) ∧ some k_ ≠ (.slice (some ad264) t253.length co26 : Value).ownBlock) ∧ k_ ≠ gb245) ∧ k_ ≠ gb260)) _ _ t250 ((rd_T32 t253 x12_1).f0) t270 t273 _ ?side1 A33.out).mono ?_); (case side1 => exact Kd.S_V (Kd.S_types (Kd.S_types (Kd.S_apart' (HO_7.out) (Kd.R_typed HO_8.out) (by decide)) BK245.out (by decide)) BK260.out (by decide))); rintro e w35 ⟨v271, rfl, ho0, hb⟩; refine ⟨_, rfl, ?_⟩; have n0_ := Aside0.mk (Kd.S_below (by (with_reducible repeat (first | apply Kd.S_alloc | apply Kd.S_drewN | apply Kd.S_drew)); exact HO_7.out) hb); have n1_ := Aside0.mk (Kd.R_below (by (with_reducible repeat (first | apply Kd.R_alloc | apply Kd.R_drewN | apply Kd.R_drew)); exact HO_8.out) hb); have n2_ := Aside0.mk (Kd.R_below (by (with_reducible repeat (first | apply Kd.R_alloc | apply Kd.R_drewN | apply Kd.R_drew)); exact HO_10.out) hb); have n3_ := Aside0.mk (Kd.R_below (by (with_reducible repeat (first | apply Kd.R_alloc | apply Kd.R_drewN | apply Kd.R_drew)); exact HO_261000.out) hb); have n4_ := Aside0.mk (Kd.V_lower (Kd.V_mono (ok' := fun k_ => some k_ ≠ (.slice (some ad264) t253.length co26 : Value).ownBlock ∧ some k_ ≠ (u10 : Value).ownBlock ∧ some k_ ≠ (.slice Ao18 t256.length co18 : Value).ownBlock ∧ k_ ≠ gb245 ∧ k_ ≠ gb260) ho0 (fun k_ hk_ => ⟨Or.elim hk_ (fun hs_ => hs_.1.1.2) (fun hn_ => (Kd.fresh' (Kd.R_lt (by (with_reducible repeat (first | apply Kd.R_alloc | apply Kd.R_drewN | apply Kd.R_drew)); exact HO_8.out)) k_ hn_)), Or.elim hk_ (fun hs_ => hs_.1.1.1.1) (fun hn_ => (Kd.fresh' (Kd.R_lt (by (with_reducible repeat (first | apply Kd.R_alloc | apply Kd.R_drewN | apply Kd.R_drew)); exact HO_10.out)) k_ hn_)), Or.elim hk_ (fun hs_ => hs_.1.1.1.2) (fun hn_ => (Kd.fresh' (Kd.R_lt (by (with_reducible repeat (first | apply Kd.R_alloc | apply Kd.R_drewN | apply Kd.R_drew)); exact HO_261000.out)) k_ hn_)), Or.elim hk_ (fun hs_ => hs_.1.2) (fun hn_ => (Kd.freshB (g := gb245) (o := .cells #[.int .u8 a1_0, .int .u8 a1_1, .int .u8 a1_2, .int .u8 a1_3] 47 (0, 0)) (by (with_reducible repeat (first | refine blk_drewN ?_ _ | refine blk_drew ?_ | refine blk_alloc ?_ _)); exact BK245.out) k_ hn_)), Or.elim hk_ (fun hs_ => hs_.2) (fun hn_ => (Kd.freshB (g := gb260) (o := .cells #[.slice Ao18 t256.length co18, .int .i64 t259] 52 (0, 0)) (by (with_reducible repeat (first | refine blk_drewN ?_ _ | refine blk_drew ?_ | refine blk_alloc ?_ _)); exact BK260.out) k_ hn_))⟩)) (below_size (by repeat (first | (with_reducible first | exact HB.out | apply below_alloc | apply pw_below_drewN | apply below_drew1 | refine below_set ?_ GE245.out | refine below_set ?_ GE260.out) | exact HB.out)))); have n5_ := Aside0.mk (blk_below (g := gb245) (o := .cells #[.int .u8 a1_0, .int .u8 a1_1, .int .u8 a1_2, .int .u8 a1_3] 47 (0, 0)) (by (with_reducible repeat (first | refine blk_drewN ?_ _ | refine blk_drew ?_ | refine blk_alloc ?_ _)); exact BK245.out) hb); have n6_ := Aside0.mk (blk_below (g := gb260) (o := .cells #[.slice Ao18 t256.length co18, .int .i64 t259] 52 (0, 0)) (by (with_reducible repeat (first | refine blk_drewN ?_ _ | refine blk_drew ?_ | refine blk_alloc ?_ _)); exact BK260.out) hb); have n7_ := Aside0.mk (below_step (by repeat (first | (with_reducible first | exact HB.out | apply below_alloc | apply pw_below_drewN | apply below_drew1 | refine below_set ?_ GE245.out | refine below_set ?_ GE260.out) | exact HB.out)) hb); clear HO_7; clear HO_8; clear HO_10; clear HO_261000; clear BK245; clear BK260; clear HB; have HO_7 := n0_; have HO_8 := n1_; have HO_10 := n2_; have HO_261000 := n3_; have HO272 := n4_; have BK245 := n5_; have BK260 := n6_; have HB := n7_; clear n0_ n1_ n2_ n3_ n4_ n5_ n6_ n7_; (try clear hb); (try clear hb2); (try clear hk); (try clear hi); (try clear ho0)))
          (try simp only [Act.put, List.setIfInBounds_toArray, List.set_cons_zero, List.set_cons_succ])
          go_cut [69] (fun v69 wc => ∃ (kq : Nat) (x69_33 : Bool), v69 = .bool x69_33 ∧ Aside0 (l08_ExtentBytes.j2 kq t246 t250 t253 x10_1 x11_24 x12_1 t270 x69_33 t256 t259 = some r) ∧ Aside0 (kq ≤ kj24) ∧ Aside0 (Kd.S k69 69 wc w.heap.size (fun k_ => some k_ ≠ (u10 : Value).ownBlock ∧ some k_ ≠ ((.slice Ao18 t256.length co18) : Value).ownBlock) (.slice Ao15 t250.length co15) t250) ∧ Aside0 (Kd.R k32 32 wc w.heap.size (fun _ => True) (.slice (some ad264) t253.length co26) t253) ∧ Aside0 (Kd.R (Kd.int .u8) 5 wc w.heap.size (fun k_ => some k_ ≠ ((.slice Ao18 t256.length co18) : Value).ownBlock) u10 x10_1) ∧ Aside0 (Kd.V (Kd.int .u8) 5 wc w.heap.size (fun k_ => some k_ ≠ ((.slice (some ad264) t253.length co26) : Value).ownBlock ∧ some k_ ≠ (u10 : Value).ownBlock ∧ some k_ ≠ ((.slice Ao18 t256.length co18) : Value).ownBlock ∧ k_ ≠ gb245 ∧ k_ ≠ gb260) v271 t270) ∧ Aside0 (Kd.R (Kd.int .u8) 5 wc w.heap.size (fun k_ => some k_ ≠ (u10 : Value).ownBlock) (.slice Ao18 t256.length co18) t256) ∧ Aside0 (wc.heap[gb245]? = some (.cells #[.int .u8 a1_0, .int .u8 a1_1, .int .u8 a1_2, .int .u8 a1_3] 47 (0, 0))) ∧ Aside0 (wc.heap[gb260]? = some (.cells #[(.slice Ao18 t256.length co18), .int .i64 t259] 52 (0, 0))) ∧ Aside0 (Below w.heap.size w wc))
          case first =>
           have H := HC34.out
           clear HC34
           by_cases c36 : t273 = true
           ·subst c36
            have H1 : (l08_ExtentBytes.j2 kj24 t246 t250 t253 x10_1 x11_24 x12_1 t270 (decide (((rd_T32 t253 x12_1).f1) ≥ (t270.length : Int))) t256 t259) = some r := by rw [if_pos rfl] at H; exact H
            clear H
            have H := H1
            clear H1
            have H' := Aside0.mk H
            clear H
            have p274 : 0 ≤ (x12_1 : Int) := of_decide_eq_true (by first | (with_reducible assumption) | assumption)
            have q274 : x12_1 < (t253.length : Int) := of_decide_eq_true (by first | (with_reducible assumption) | assumption)
            obtain ⟨ad274, e274, hx274_0, hx274_1⟩ := at_T32 (Kd.R_reads' HO_8.out).2.2 x12_1 p274 q274
            obtain rfl : ad264 = ad274 := (by injection e274)
            replace p274 := eq_true p274
            replace q274 := eq_true q274
            obtain ⟨Ao37, co37, eo37⟩ := Kd.V_slice HO272.out
            subst eo37
            go_wp2
            go_meet
            case rel => exact ⟨_, (decide (((rd_T32 t253 x12_1).f1) ≥ (t270.length : Int))), (by first | rfl | (simp; done) | (simp [*]; done)), H', ⟨by have := HK1.out; have := HJ24.out; first | omega | exact Nat.le_refl _⟩, ⟨by (with_reducible repeat (first | apply Kd.S_alloc | apply Kd.S_drewN | apply Kd.S_drew)); exact HO_7.out⟩, ⟨by (with_reducible repeat (first | apply Kd.R_alloc | apply Kd.R_drewN | apply Kd.R_drew)); exact HO_8.out⟩, ⟨by (with_reducible repeat (first | apply Kd.R_alloc | apply Kd.R_drewN | apply Kd.R_drew)); exact HO_10.out⟩, ⟨by (with_reducible repeat (first | apply Kd.V_alloc | apply Kd.V_drewN | apply Kd.V_drew)); exact HO272.out⟩, ⟨by (with_reducible repeat (first | apply Kd.R_alloc | apply Kd.R_drewN | apply Kd.R_drew)); exact HO_261000.out⟩, ⟨by (with_reducible repeat (first | refine blk_drewN ?_ _ | refine blk_drew ?_ | refine blk_alloc ?_ _)); exact BK245.out⟩, ⟨by (with_reducible repeat (first | refine blk_drewN ?_ _ | refine blk_drew ?_ | refine blk_alloc ?_ _)); exact BK260.out⟩, ⟨by repeat (first | (with_reducible first | exact HB.out | apply below_alloc | apply pw_below_drewN | apply below_drew1 | refine below_set ?_ GE245.out | refine below_set ?_ GE260.out) | exact HB.out)⟩⟩
           ·replace c36 := Bool.eq_false_iff.mpr c36
            subst c36
            have H1 : (l08_ExtentBytes.j2 kj24 t246 t250 t253 x10_1 x11_24 x12_1 t270 true t256 t259) = some r := by rw [if_neg (show ¬ (false = true) by decide)] at H; exact H
            clear H
            have H := H1
            clear H1
            have H' := Aside0.mk H
            clear H
            go_wp2
            go_meet
            case rel => exact ⟨_, (true), (by first | rfl | (simp; done) | (simp [*]; done)), H', ⟨by have := HK1.out; have := HJ24.out; first | omega | exact Nat.le_refl _⟩, ⟨by (with_reducible repeat (first | apply Kd.S_alloc | apply Kd.S_drewN | apply Kd.S_drew)); exact HO_7.out⟩, ⟨by (with_reducible repeat (first | apply Kd.R_alloc | apply Kd.R_drewN | apply Kd.R_drew)); exact HO_8.out⟩, ⟨by (with_reducible repeat (first | apply Kd.R_alloc | apply Kd.R_drewN | apply Kd.R_drew)); exact HO_10.out⟩, ⟨by (with_reducible repeat (first | apply Kd.V_alloc | apply Kd.V_drewN | apply Kd.V_drew)); exact HO272.out⟩, ⟨by (with_reducible repeat (first | apply Kd.R_alloc | apply Kd.R_drewN | apply Kd.R_drew)); exact HO_261000.out⟩, ⟨by (with_reducible repeat (first | refine blk_drewN ?_ _ | refine blk_drew ?_ | refine blk_alloc ?_ _)); exact BK245.out⟩, ⟨by (with_reducible repeat (first | refine blk_drewN ?_ _ | refine blk_drew ?_ | refine blk_alloc ?_ _)); exact BK260.out⟩, ⟨by repeat (first | (with_reducible first | exact HB.out | apply below_alloc | apply pw_below_drewN | apply below_drew1 | refine below_set ?_ GE245.out | refine below_set ?_ GE260.out) | exact HB.out)⟩⟩
          case rest =>
           clear HC34
           try clear c1
           try clear c2
           try clear p2
           try clear q2
           try clear hx2
           try clear c3
           try clear c6
           try clear p6
           try clear c10
           try clear c11
           try clear c12
           try clear c19
           try clear c23
           try clear c23b0
           try clear c24
           try clear c24b0
           try clear c25
           try clear c26
           try clear p26
           try clear q26
           try clear hx26
           try clear c27
           try clear c27b0
           try clear c27b1
           try clear p27
           try clear q27
           try clear hx27
           try clear c28
           try clear c28b0
           try clear c29
           try clear c29b0
           try clear c30
           try clear c30b0
           try clear c31
           try clear c36
           try clear hcz20_0
           try clear hcz20_1
           try clear hfz20_0
           try clear hfz20_1
           try clear hx264_0
           try clear hx264_1
           try clear hx265_0
           try clear hx265_1
           try clear hx269_0
           try clear hx269_1
           try clear hx274_0
           try clear hx274_1
           try clear p2
           try clear p26
           try clear p264
           try clear p265
           try clear p269
           try clear p274
           try clear q2
           try clear q26
           try clear q264
           try clear q265
           try clear q269
           try clear q274
           obtain ⟨kq, x69_33, rfl, HA, HJ33, HO_7, HO_8, HO_10, HO_13, HO_261000, BK245, BK260, HB⟩ := hcut
           cases kq with
           | zero => exact absurd HA.out (by simp [l08_ExtentBytes.j2])
           | succ kj33 =>
            have H := HA.out
            clear HA
            simp only [l08_ExtentBytes.j2] at H
            by_cases c38 : x69_33 = true
            ·subst c38
             have H1 : (if x11_24 = 0 then (l08_ExtentBytes.l0 kj33 t246 t250 t253 x10_1 90 (wrap64 (x12_1 + 1)) t256 t259) else (l08_ExtentBytes.l0 kj33 t246 t250 t253 x10_1 x11_24 (wrap64 (x12_1 + 1)) t256 t259)) = some r := by rw [if_pos rfl] at H; exact H
             clear H
             have H := H1
             clear H1
             by_cases c39 : x11_24 = 0
             ·rw [if_pos c39] at H
              have c39b0 : (x11_24 == 0) = true := beq_iff_eq.mpr c39
              have c39b1 : (x11_24 != 0) = false := bne_eq_false_iff_eq.mpr c39
              clear c39
              have H' := Aside0.mk H
              clear H
              go_wp2
              go_roundg kj33
              case measure => have := HK1.out; have := HJ24.out; have := HJ33.out; omega
              case rel => exact ⟨(x10_1), (90), (wrap64 (x12_1 + 1)), (by first | rfl | (simp; done) | (simp [*]; done)), (by first | rfl | (simp; done) | (simp [*]; done)), H', ⟨by have := HK1.out; have := HJ24.out; have := HJ33.out; omega⟩, ⟨by (with_reducible repeat (first | apply Kd.S_alloc | apply Kd.S_drewN | apply Kd.S_drew)); exact HO_7.out⟩, ⟨by (with_reducible repeat (first | apply Kd.R_alloc | apply Kd.R_drewN | apply Kd.R_drew)); exact HO_8.out⟩, ⟨by (with_reducible repeat (first | apply Kd.R_alloc | apply Kd.R_drewN | apply Kd.R_drew)); exact HO_10.out⟩, ⟨by (with_reducible repeat (first | apply Kd.R_alloc | apply Kd.R_drewN | apply Kd.R_drew)); exact HO_261000.out⟩, ⟨by (with_reducible repeat (first | refine blk_drewN ?_ _ | refine blk_drew ?_ | refine blk_alloc ?_ _)); exact BK245.out⟩, ⟨by (with_reducible repeat (first | refine blk_drewN ?_ _ | refine blk_drew ?_ | refine blk_alloc ?_ _)); exact BK260.out⟩, ⟨by repeat (first | (with_reducible first | exact HB.out | apply below_alloc | apply pw_below_drewN | apply below_drew1 | refine below_set ?_ GE245.out | refine below_set ?_ GE260.out) | exact HB.out)⟩⟩
             ·rw [if_neg c39] at H
              have c39b0 : (x11_24 == 0) = false := beq_eq_false_iff_ne.mpr c39
              have c39b1 : (x11_24 != 0) = true := bne_iff_ne.mpr c39
              have H' := Aside0.mk H
              clear H
              go_wp2
              go_roundg kj33
              case measure => have := HK1.out; have := HJ24.out; have := HJ33.out; omega
              case rel => exact ⟨(x10_1), (x11_24), (wrap64 (x12_1 + 1)), (by first | rfl | (simp; done) | (simp [*]; done)), (by first | rfl | (simp; done) | (simp [*]; done)), H', ⟨by have := HK1.out; have := HJ24.out; have := HJ33.out; omega⟩, ⟨by (with_reducible repeat (first | apply Kd.S_alloc | apply Kd.S_drewN | apply Kd.S_drew)); exact HO_7.out⟩, ⟨by (with_reducible repeat (first | apply Kd.R_alloc | apply Kd.R_drewN | apply Kd.R_drew)); exact HO_8.out⟩, ⟨by (with_reducible repeat (first | apply Kd.R_alloc | apply Kd.R_drewN | apply Kd.R_drew)); exact HO_10.out⟩, ⟨by (with_reducible repeat (first | apply Kd.R_alloc | apply Kd.R_drewN | apply Kd.R_drew)); exact HO_261000.out⟩, ⟨by (with_reducible repeat (first | refine blk_drewN ?_ _ | refine blk_drew ?_ | refine blk_alloc ?_ _)); exact BK245.out⟩, ⟨by (with_reducible repeat (first | refine blk_drewN ?_ _ | refine blk_drew ?_ | refine blk_alloc ?_ _)); exact BK260.out⟩, ⟨by repeat (first | (with_reducible first | exact HB.out | apply below_alloc | apply pw_below_drewN | apply below_drew1 | refine below_set ?_ GE245.out | refine below_set ?_ GE260.out) | exact HB.out)⟩⟩
            ·replace c38 := Bool.eq_false_iff.mpr c38
             subst c38
             have H1 : (if 0 ≤ x12_1 then (if x12_1 < (t253.length : Int) then (if 0 ≤ ((rd_T32 t253 x12_1).f1) then (if ((rd_T32 t253 x12_1).f1) < (t270.length : Int) then (if x10_1.length < 140737488355328 then (l08_ExtentBytes.l0 kj33 t246 t250 t253 (x10_1 ++ [rd t270 ((rd_T32 t253 x12_1).f1)]) x11_24 (wrap64 (x12_1 + 1)) t256 t259) else (none)) else (none)) else (none)) else (none)) else (none)) = some r := by rw [if_neg (show ¬ (false = true) by decide)] at H; exact H
             clear H
             have H := H1
             clear H1
             by_cases c40 : 0 ≤ x12_1
             ·rw [if_pos c40] at H
              have c40b0 : decide (0 ≤ x12_1) = true := decide_eq_true c40
              clear c40
              by_cases c41 : x12_1 < (t253.length : Int)
              ·rw [if_pos c41] at H
               have c41b0 : decide (x12_1 < (t253.length : Int)) = true := decide_eq_true c41
               clear c41
               by_cases c42 : 0 ≤ ((rd_T32 t253 x12_1).f1)
               ·rw [if_pos c42] at H
                have c42b0 : decide (0 ≤ ((rd_T32 t253 x12_1).f1)) = true := decide_eq_true c42
                clear c42
                by_cases c43 : ((rd_T32 t253 x12_1).f1) < (t270.length : Int)
                ·rw [if_pos c43] at H
                 have c43b0 : decide (((rd_T32 t253 x12_1).f1) < (t270.length : Int)) = true := decide_eq_true c43
                 clear c43
                 by_cases c44 : x10_1.length < 140737488355328
                 ·rw [if_pos c44] at H
                  have LMc44 := Aside0.mk c44
                  clear c44
                  obtain ⟨y277, hy277⟩ : ∃ y_ : List Int, y_ = (x10_1 ++ [rd t270 ((rd_T32 t253 x12_1).f1)]) := ⟨_, rfl⟩
                  replace H : (l08_ExtentBytes.l0 kj33 t246 t250 t253 y277 x11_24 (wrap64 (x12_1 + 1)) t256 t259) = some r := by first | (rw [hy277]; with_reducible exact H) | (have H2_ := (Option.bind_some _ _).symm.trans H; rw [hy277]; with_reducible exact H2_) | (have H2_ := (Option.bind_some _ _).symm.trans H; with_reducible exact H2_) | with_reducible exact H | (rw [hy277]; exact H) | exact H
                  have Ny277 := Aside0.mk hy277
                  clear hy277
                  have H' := Aside0.mk H
                  clear H
                  have p275 : 0 ≤ (x12_1 : Int) := of_decide_eq_true (by first | (with_reducible assumption) | assumption)
                  have q275 : x12_1 < (t253.length : Int) := of_decide_eq_true (by first | (with_reducible assumption) | assumption)
                  obtain ⟨ad275, e275, hx275_0, hx275_1⟩ := at_T32 (Kd.R_reads' HO_8.out).2.2 x12_1 p275 q275
                  obtain rfl : ad264 = ad275 := (by injection e275)
                  replace p275 := eq_true p275
                  replace q275 := eq_true q275
                  obtain ⟨Ao45, co45, eo45⟩ := Kd.V_slice HO_13.out
                  subst eo45
                  have p276 : 0 ≤ (((rd_T32 t253 x12_1).f1) : Int) := of_decide_eq_true (by first | (with_reducible assumption) | assumption)
                  have q276 : ((rd_T32 t253 x12_1).f1) < (t270.length : Int) := of_decide_eq_true (by first | (with_reducible assumption) | assumption)
                  obtain ⟨ad276, e276, hx276_0⟩ := Kd.at_int (Kd.V_reads' HO_13.out).2.2 ((rd_T32 t253 x12_1).f1) p276 q276
                  cases e276
                  replace p276 := eq_true p276
                  replace q276 := eq_true q276
                  go_wp2_with (first | ((with_reducible refine gate_builtin (b := .append) (xs := #[.tmp 72, .tmp 81]) rfl ?_); (try (refine gate_guard (by rfl) ?_; dsimp only)); at_builtin; refine Kd.R_append (Kd.int .u8) (w0 := w) w.heap.size rfl (.tmp 72) (.tmp 81) 50 5 (.int .u8 0) 1 rfl Try.underlying50 info5 rfl (by decide) (by omega) u10 x10_1 (rd t270 ((rd_T32 t253 x12_1).f1)) [.int .u8 (rd t270 ((rd_T32 t253 x12_1).f1))] (fun k_ => some k_ ≠ (.slice Ao18 t256.length co18 : Value).ownBlock) (fun _ => False) rfl rfl ?aP (fun _ hk => hk.elim) ?aF ?aO ?aB ?aS ?aL ?_; (case aP => exact rfl); (case aB => exact (by repeat (first | (with_reducible first | exact HB.out | apply below_alloc | apply pw_below_drewN | apply below_drew1 | refine below_set ?_ GE245.out | refine below_set ?_ GE260.out) | exact HB.out))); (case aF => exact (fun k_ hk => Kd.fresh' (Kd.R_lt (by (with_reducible repeat (first | apply Kd.R_alloc | apply Kd.R_drewN | apply Kd.R_drew)); exact HO_261000.out)) k_ hk)); (case aO => exact (by (with_reducible repeat (first | apply Kd.R_alloc | apply Kd.R_drewN | apply Kd.R_drew)); exact HO_10.out)); (case aS => exact (below_size (by repeat (first | (with_reducible first | exact HB.out | apply below_alloc | apply pw_below_drewN | apply below_drew1 | refine below_set ?_ GE245.out | refine below_set ?_ GE260.out) | exact HB.out)))); (case aL => have := LMc44.out; omega); intro v278 w46 ho hb hg hat; rw [← Ny277.out] at ho; have n0_ := Aside0.mk (Kd.S_after (ok := (fun k_ => some k_ ≠ (.slice Ao18 t256.length co18 : Value).ownBlock)) (by (with_reducible repeat (first | apply Kd.S_alloc | apply Kd.S_drewN | apply Kd.S_drew)); exact Kd.S_mono HO_7.out (fun _ hk => ⟨hk.2, hk.1⟩)) hg hat); have n1_ := Aside0.mk (Kd.R_over' (by (with_reducible repeat (first | apply Kd.R_alloc | apply Kd.R_drewN | apply Kd.R_drew)); exact HO_8.out) (Kd.R_typed (by (with_reducible repeat (first | apply Kd.R_alloc | apply Kd.R_drewN | apply Kd.R_drew)); exact HO_10.out)) (by decide) hg); have n2_ := Aside0.mk (Kd.V_afterv (ok := (fun k_ => some k_ ≠ (.slice (some ad264) t253.length co26 : Value).ownBlock ∧ some k_ ≠ (.slice Ao18 t256.length co18 : Value).ownBlock ∧ k_ ≠ gb245 ∧ k_ ≠ gb260)) (by (with_reducible repeat (first | apply Kd.V_alloc | apply Kd.V_drewN | apply Kd.V_drew)); exact Kd.V_mono HO_13.out (fun _ hk => ⟨⟨hk.1, ⟨hk.2.2.1, ⟨hk.2.2.2.1, hk.2.2.2.2⟩⟩⟩, hk.2.1⟩)) hg hat); have n3_ := Aside0.mk (Kd.R_after (ok := (fun _ => True)) (by (with_reducible repeat (first | apply Kd.R_alloc | apply Kd.R_drewN | apply Kd.R_drew)); exact Kd.R_mono HO_261000.out (fun _ hk => ⟨trivial, hk⟩)) hg hat); have n4_ := Aside0.mk (blk_grown (g := gb245) (o := .cells #[.int .u8 a1_0, .int .u8 a1_1, .int .u8 a1_2, .int .u8 a1_3] 47 (0, 0)) (by (with_reducible repeat (first | refine blk_drewN ?_ _ | refine blk_drew ?_ | refine blk_alloc ?_ _)); exact BK245.out) hg (Kd.R_ne HO_10.out BK245.out (by decide))); have n5_ := Aside0.mk (blk_grown (g := gb260) (o := .cells #[.slice Ao18 t256.length co18, .int .i64 t259] 52 (0, 0)) (by (with_reducible repeat (first | refine blk_drewN ?_ _ | refine blk_drew ?_ | refine blk_alloc ?_ _)); exact BK260.out) hg (Kd.R_ne HO_10.out BK260.out (by decide))); have n6_ := Aside0.mk (hb); have n7_ := Aside0.mk (ho); clear HO_7; clear HO_8; clear HO_13; clear HO_261000; clear BK245; clear BK260; clear HB; clear HO_10; have HO_7 := n0_; have HO_8 := n1_; have HO_13 := n2_; have HO_261000 := n3_; have BK245 := n4_; have BK260 := n5_; have HB := n6_; have HO279 := n7_; clear n0_ n1_ n2_ n3_ n4_ n5_ n6_ n7_; clear ho hb hg hat))
                  go_roundg kj33
                  case measure => have := HK1.out; have := HJ24.out; have := HJ33.out; omega
                  case rel => exact ⟨(y277), (x11_24), (wrap64 (x12_1 + 1)), (by first | rfl | (simp; done) | (simp [*]; done)), (by first | rfl | (simp; done) | (simp [*]; done)), H', ⟨by have := HK1.out; have := HJ24.out; have := HJ33.out; omega⟩, ⟨by (with_reducible repeat (first | apply Kd.S_alloc | apply Kd.S_drewN | apply Kd.S_drew)); exact Kd.S_mono HO_7.out (fun _ hk => ⟨hk.2, hk.1⟩)⟩, ⟨by (with_reducible repeat (first | apply Kd.R_alloc | apply Kd.R_drewN | apply Kd.R_drew)); exact HO_8.out⟩, ⟨by (with_reducible repeat (first | apply Kd.R_alloc | apply Kd.R_drewN | apply Kd.R_drew)); exact HO279.out⟩, ⟨by (with_reducible repeat (first | apply Kd.R_alloc | apply Kd.R_drewN | apply Kd.R_drew)); exact Kd.R_mono HO_261000.out (fun _ hk => hk.2)⟩, ⟨by (with_reducible repeat (first | refine blk_drewN ?_ _ | refine blk_drew ?_ | refine blk_alloc ?_ _)); exact BK245.out⟩, ⟨by (with_reducible repeat (first | refine blk_drewN ?_ _ | refine blk_drew ?_ | refine blk_alloc ?_ _)); exact BK260.out⟩, ⟨by repeat (first | (with_reducible first | exact HB.out | apply below_alloc | apply pw_below_drewN | apply below_drew1 | refine below_set ?_ GE245.out | refine below_set ?_ GE260.out) | exact HB.out)⟩⟩
                 ·rw [if_neg c44] at H
                  exact absurd H (by simp)
                ·rw [if_neg c43] at H
                 exact absurd H (by simp)
               ·rw [if_neg c42] at H
                exact absurd H (by simp)
              ·rw [if_neg c41] at H
               exact absurd H (by simp)
             ·rw [if_neg c40] at H
              exact absurd H (by simp)
        ·rw [if_neg c29] at H
         exact absurd H (by simp)
       ·rw [if_neg c28] at H
        exact absurd H (by simp)
    ·rw [if_neg c24] at H
     exact absurd H (by simp)
   ·rw [if_neg c23] at H
    have c23b0 : decide (x12_1 < (t253.length : Int)) = false := decide_eq_false c23
    clear c23
    have H' := Aside0.mk H
    clear H
    obtain ⟨Ao47, co47, eo47⟩ := Kd.R_slice HO_8.out
    subst eo47
    go_wp2
    go_loopg [11, 15] k1 (fun kq v11 v15 w' => ∃ (x11_2 : Int) (x15_2 : Int), v11 = .int .i64 x11_2 ∧ v15 = .int .i64 x15_2 ∧ Aside0 (l08_ExtentBytes.l1 kq t246 t253 x10_1 x11_2 x15_2 t256 t259 = some r) ∧ Aside0 (kq ≤ k1) ∧ Aside0 (Kd.R k32 32 w' w.heap.size (fun _ => True) (.slice Ao47 t253.length co47) t253) ∧ Aside0 (Kd.R (Kd.int .u8) 5 w' w.heap.size (fun k_ => some k_ ≠ ((.slice Ao18 t256.length co18) : Value).ownBlock) u10 x10_1) ∧ Aside0 (Kd.R (Kd.int .u8) 5 w' w.heap.size (fun k_ => some k_ ≠ (u10 : Value).ownBlock) (.slice Ao18 t256.length co18) t256) ∧ Aside0 (w'.heap[gb245]? = some (.cells #[.int .u8 a1_0, .int .u8 a1_1, .int .u8 a1_2, .int .u8 a1_3] 47 (0, 0))) ∧ Aside0 (w'.heap[gb260]? = some (.cells #[(.slice Ao18 t256.length co18), .int .i64 t259] 52 (0, 0))) ∧ Aside0 (Below w.heap.size w w'))
    case atStart => exact ⟨(x11_1), (0), (by first | rfl | (simp; done) | (simp [*]; done)), (by first | rfl | (simp; done) | (simp [*]; done)), H', ⟨Nat.le_refl _⟩, ⟨by (with_reducible repeat (first | apply Kd.R_alloc | apply Kd.R_drewN | apply Kd.R_drew)); exact HO_8.out⟩, ⟨by (with_reducible repeat (first | apply Kd.R_alloc | apply Kd.R_drewN | apply Kd.R_drew)); exact HO_10.out⟩, ⟨by (with_reducible repeat (first | apply Kd.R_alloc | apply Kd.R_drewN | apply Kd.R_drew)); exact HO_261000.out⟩, ⟨by (with_reducible repeat (first | refine blk_drewN ?_ _ | refine blk_drew ?_ | refine blk_alloc ?_ _)); exact BK245.out⟩, ⟨by (with_reducible repeat (first | refine blk_drewN ?_ _ | refine blk_drew ?_ | refine blk_alloc ?_ _)); exact BK260.out⟩, ⟨by repeat (first | (with_reducible first | exact HB.out | apply below_alloc | apply pw_below_drewN | apply below_drew1 | refine below_set ?_ GE245.out | refine below_set ?_ GE260.out) | exact HB.out)⟩⟩
    case round =>
     clear H'
     try clear c1
     try clear c2
     try clear p2
     try clear q2
     try clear hx2
     try clear c3
     try clear c4
     try clear c6
     try clear p6
     try clear c10
     try clear c11
     try clear c12
     try clear c19
     try clear c23
     try clear c23b0
     try clear c24
     try clear c24b0
     try clear c25
     try clear c26
     try clear p26
     try clear q26
     try clear hx26
     try clear c27
     try clear c27b0
     try clear c27b1
     try clear p27
     try clear q27
     try clear hx27
     try clear c28
     try clear c28b0
     try clear c29
     try clear c29b0
     try clear c30
     try clear c30b0
     try clear c31
     try clear c36
     try clear c38
     try clear c39
     try clear c39b0
     try clear c39b1
     try clear c40
     try clear c40b0
     try clear c41
     try clear c41b0
     try clear c42
     try clear c42b0
     try clear c43
     try clear c43b0
     try clear c44
     try clear hcz20_0
     try clear hcz20_1
     try clear hfz20_0
     try clear hfz20_1
     try clear hx264_0
     try clear hx264_1
     try clear hx265_0
     try clear hx265_1
     try clear hx269_0
     try clear hx269_1
     try clear hx274_0
     try clear hx274_1
     try clear hx275_0
     try clear hx275_1
     try clear hx276_0
     try clear p2
     try clear p26
     try clear p264
     try clear p265
     try clear p269
     try clear p27
     try clear p274
     try clear p275
     try clear p276
     try clear p6
     try clear q2
     try clear q26
     try clear q264
     try clear q265
     try clear q269
     try clear q27
     try clear q274
     try clear q275
     try clear q276
     obtain ⟨x11_2, x15_2, rfl, rfl, HA, HK2, HO_8, HO_10, HO_261000, BK245, BK260, HB⟩ := hrel
     cases gk with
     | zero => exact absurd HA.out (by simp [l08_ExtentBytes.l1])
     | succ k2 =>
      have H := HA.out
      clear HA
      simp only [l08_ExtentBytes.l1] at H
      by_cases c48 : x15_2 < (t253.length : Int)
      ·rw [if_pos c48] at H
       have c48b0 : decide (x15_2 < (t253.length : Int)) = true := decide_eq_true c48
       clear c48
       by_cases c49 : 0 ≤ x15_2
       ·rw [if_pos c49] at H
        have c49b0 : decide (0 ≤ x15_2) = true := decide_eq_true c49
        clear c49
        by_cases c50 : ((rd_T32 t253 x15_2).f0) = (-1)
        ·rw [if_pos c50] at H
         have c50b0 : (((rd_T32 t253 x15_2).f0) == (-1)) = true := beq_iff_eq.mpr c50
         have c50b1 : (((rd_T32 t253 x15_2).f0) != (-1)) = false := bne_eq_false_iff_eq.mpr c50
         clear c50
         have H' := Aside0.mk H
         clear H
         have p280 : 0 ≤ (x15_2 : Int) := of_decide_eq_true (by first | (with_reducible assumption) | assumption)
         have q280 : x15_2 < (t253.length : Int) := of_decide_eq_true (by first | (with_reducible assumption) | assumption)
         obtain ⟨ad280, e280, hx280_0, hx280_1⟩ := at_T32 (Kd.R_reads' HO_8.out).2.2 x15_2 p280 q280
         cases e280
         replace p280 := eq_true p280
         replace q280 := eq_true q280
         go_wp2
         go_roundg k2
         case measure => have := HK1.out; have := HK2.out; omega
         case rel => exact ⟨(60), (wrap64 (x15_2 + 1)), (by first | rfl | (simp; done) | (simp [*]; done)), (by first | rfl | (simp; done) | (simp [*]; done)), H', ⟨by have := HK1.out; have := HK2.out; omega⟩, ⟨by (with_reducible repeat (first | apply Kd.R_alloc | apply Kd.R_drewN | apply Kd.R_drew)); exact HO_8.out⟩, ⟨by (with_reducible repeat (first | apply Kd.R_alloc | apply Kd.R_drewN | apply Kd.R_drew)); exact HO_10.out⟩, ⟨by (with_reducible repeat (first | apply Kd.R_alloc | apply Kd.R_drewN | apply Kd.R_drew)); exact HO_261000.out⟩, ⟨by (with_reducible repeat (first | refine blk_drewN ?_ _ | refine blk_drew ?_ | refine blk_alloc ?_ _)); exact BK245.out⟩, ⟨by (with_reducible repeat (first | refine blk_drewN ?_ _ | refine blk_drew ?_ | refine blk_alloc ?_ _)); exact BK260.out⟩, ⟨by repeat (first | (with_reducible first | exact HB.out | apply below_alloc | apply pw_below_drewN | apply below_drew1 | refine below_set ?_ GE245.out | refine below_set ?_ GE260.out) | exact HB.out)⟩⟩
        ·rw [if_neg c50] at H
         have c50b0 : (((rd_T32 t253 x15_2).f0) == (-1)) = false := beq_eq_false_iff_ne.mpr c50
         have c50b1 : (((rd_T32 t253 x15_2).f0) != (-1)) = true := bne_iff_ne.mpr c50
         have H' := Aside0.mk H
         clear H
         have p280 : 0 ≤ (x15_2 : Int) := of_decide_eq_true (by first | (with_reducible assumption) | assumption)
         have q280 : x15_2 < (t253.length : Int) := of_decide_eq_true (by first | (with_reducible assumption) | assumption)
         obtain ⟨ad280, e280, hx280_0, hx280_1⟩ := at_T32 (Kd.R_reads' HO_8.out).2.2 x15_2 p280 q280
         cases e280
         replace p280 := eq_true p280
         replace q280 := eq_true q280
         go_wp2
         go_roundg k2
         case measure => have := HK1.out; have := HK2.out; omega
         case rel => exact ⟨(x11_2), (wrap64 (x15_2 + 1)), (by first | rfl | (simp; done) | (simp [*]; done)), (by first | rfl | (simp; done) | (simp [*]; done)), H', ⟨by have := HK1.out; have := HK2.out; omega⟩, ⟨by (with_reducible repeat (first | apply Kd.R_alloc | apply Kd.R_drewN | apply Kd.R_drew)); exact HO_8.out⟩, ⟨by (with_reducible repeat (first | apply Kd.R_alloc | apply Kd.R_drewN | apply Kd.R_drew)); exact HO_10.out⟩, ⟨by (with_reducible repeat (first | apply Kd.R_alloc | apply Kd.R_drewN | apply Kd.R_drew)); exact HO_261000.out⟩, ⟨by (with_reducible repeat (first | refine blk_drewN ?_ _ | refine blk_drew ?_ | refine blk_alloc ?_ _)); exact BK245.out⟩, ⟨by (with_reducible repeat (first | refine blk_drewN ?_ _ | refine blk_drew ?_ | refine blk_alloc ?_ _)); exact BK260.out⟩, ⟨by repeat (first | (with_reducible first | exact HB.out | apply below_alloc | apply pw_below_drewN | apply below_drew1 | refine below_set ?_ GE245.out | refine below_set ?_ GE260.out) | exact HB.out)⟩⟩
       ·rw [if_neg c49] at H
        exact absurd H (by simp)
      ·rw [if_neg c48] at H
       have c48b0 : decide (x15_2 < (t253.length : Int)) = false := decide_eq_false c48
       clear c48
       by_cases c51 : x11_2 = 0
       ·rw [if_pos c51] at H
        have c51b0 : (x11_2 == 0) = true := beq_iff_eq.mpr c51
        have c51b1 : (x11_2 != 0) = false := bne_eq_false_iff_eq.mpr c51
        clear c51
        by_cases c52 : t259 = 0
        ·rw [if_pos c52] at H
         have c52b0 : (t259 == 0) = true := beq_iff_eq.mpr c52
         have c52b1 : (t259 != 0) = false := bne_eq_false_iff_eq.mpr c52
         clear c52
         by_cases c53 : (strOfNums t256).toList = (strOfNums x10_1).toList
         ·rw [if_pos c53] at H
          have c53b0 : ((strOfNums t256).toList == (strOfNums x10_1).toList) = true := beq_iff_eq.mpr c53
          have c53b1 : ((strOfNums t256).toList != (strOfNums x10_1).toList) = false := bne_eq_false_iff_eq.mpr c53
          clear c53
          clear HLAW
          obtain rfl := Option.some.inj H
          have hnb54 := NB260_245.out
          have hnc54 := NB245_260.out
          have hcz55_0 : wr.cell? ⟨gb260, 0, none⟩ = some (.slice Ao18 t256.length co18) := (blk_cell BK260.out 0).trans rfl
          have hcz55_1 : wr.cell? ⟨gb260, 1, none⟩ = some (.int .i64 t259) := (blk_cell BK260.out 1).trans rfl
          have hfz55_0 := blk_frozen BK260.out 0
          have hfz55_1 := blk_frozen BK260.out 1
          have hcv56 := own_string (P := Try.prog) Try.underlying50 Try.underlying5 Try.underlying9 (Kd.own_of_R HO_261000.out)
          have hcv57 := own_string (P := Try.prog) Try.underlying50 Try.underlying5 Try.underlying9 (Kd.own_of_R HO_10.out)
          go_wp2
          go_ret
          exact ⟨by first | rfl | (simp [errW_none, errW_some] <;> rfl) | (simp [*, errW_none, errW_some] <;> rfl) | (exfalso; simp_all only [aside0_iff, Option.some.injEq, reduceCtorEq]), by repeat (first | (with_reducible first | exact HB.out | apply below_alloc | apply pw_below_drewN | apply below_drew1 | refine below_set ?_ GE245.out | refine below_set ?_ GE260.out) | exact HB.out)⟩
         ·rw [if_neg c53] at H
          have c53b0 : ((strOfNums t256).toList == (strOfNums x10_1).toList) = false := beq_eq_false_iff_ne.mpr c53
          have c53b1 : ((strOfNums t256).toList != (strOfNums x10_1).toList) = true := bne_iff_ne.mpr c53
          exact absurd ((Option.some.inj H).trans HLAW.out) (by decide)
        ·rw [if_neg c52] at H
         have c52b0 : (t259 == 0) = false := beq_eq_false_iff_ne.mpr c52
         have c52b1 : (t259 != 0) = true := bne_iff_ne.mpr c52
         exact absurd ((Option.some.inj H).trans HLAW.out) (by decide)
       ·rw [if_neg c51] at H
        have c51b0 : (x11_2 == 0) = false := beq_eq_false_iff_ne.mpr c51
        have c51b1 : (x11_2 != 0) = true := bne_iff_ne.mpr c51
        by_cases c58 : t259 = x11_2
        ·rw [if_pos c58] at H
         have c58b0 : (t259 == x11_2) = true := beq_iff_eq.mpr c58
         have c58b1 : (t259 != x11_2) = false := bne_eq_false_iff_eq.mpr c58
         clear c58
         by_cases c59 : (t256.length : Int) = 0
         ·rw [if_pos c59] at H
          have c59b0 : ((t256.length : Int) == 0) = true := beq_iff_eq.mpr c59
          have c59b1 : ((t256.length : Int) != 0) = false := bne_eq_false_iff_eq.mpr c59
          clear c59
          clear HLAW
          obtain rfl := Option.some.inj H
          have hnb60 := NB260_245.out
          have hnc60 := NB245_260.out
          have hcz61_0 : wr.cell? ⟨gb260, 0, none⟩ = some (.slice Ao18 t256.length co18) := (blk_cell BK260.out 0).trans rfl
          have hcz61_1 : wr.cell? ⟨gb260, 1, none⟩ = some (.int .i64 t259) := (blk_cell BK260.out 1).trans rfl
          have hfz61_0 := blk_frozen BK260.out 0
          have hfz61_1 := blk_frozen BK260.out 1
          go_wp2
          go_ret
          exact ⟨by first | rfl | (simp [errW_none, errW_some] <;> rfl) | (simp [*, errW_none, errW_some] <;> rfl) | (exfalso; simp_all only [aside0_iff, Option.some.injEq, reduceCtorEq]), by repeat (first | (with_reducible first | exact HB.out | apply below_alloc | apply pw_below_drewN | apply below_drew1 | refine below_set ?_ GE245.out | refine below_set ?_ GE260.out) | exact HB.out)⟩
         ·rw [if_neg c59] at H
          have c59b0 : ((t256.length : Int) == 0) = false := beq_eq_false_iff_ne.mpr c59
          have c59b1 : ((t256.length : Int) != 0) = true := bne_iff_ne.mpr c59
          have c59b2 : ¬ (t256 = []) := fun h_ => c59 (by rw [h_]; rfl)
          exact absurd ((Option.some.inj H).trans HLAW.out) (by decide)
        ·rw [if_neg c58] at H
         have c58b0 : (t259 == x11_2) = false := beq_eq_false_iff_ne.mpr c58
         have c58b1 : (t259 != x11_2) = true := bne_iff_ne.mpr c58
         exact absurd ((Option.some.inj H).trans HLAW.out) (by decide)

/-- THE ONE PURE STATEMENT of l08_ExtentBytes: yours. -/
def l08_ExtentBytes.Pure : Prop := ∀ (l0 : List (S37)) (a1_0 : Int) (a1_1 : Int) (a1_2 : Int) (a1_3 : Int), (l0.length ≤ maxLen ∧ l0.length * 3 ≤ 140737488351232 ∧ ∀ x1_ ∈ l0, ((Lit.int .u8 x1_.f0).wf = true) ∧ (((Lit.int .u8 x1_.f1).wf = true) ∧ ((Lit.int .u8 x1_.f2).wf = true))) → (((Lit.int .u8 a1_0).wf = true) ∧ (((Lit.int .u8 a1_1).wf = true) ∧ (((Lit.int .u8 a1_2).wf = true) ∧ ((Lit.int .u8 a1_3).wf = true)))) → ∃ k, l08_ExtentBytes.f k l0 a1_0 a1_1 a1_2 a1_3 = some true


end Go.Proofs.Ytfhjbhbmbnnimaa.PE
