/- Put together by this session's program out of: Hb. -/
import Derived.Test.YtanabbjakacgbaaDoorM14
namespace Go.Proofs.YtanabbjakacgbaaDoor.Sp
open Go.RowKit Go.Proofs.YtanabbjakacgbaaDoorW.PrintWords Go.Proofs.YtanabbjakacgbaaDoorW.PrintLast Go.Proofs.YtanabbjakacgbaaDoorW.PrintMore Go.Proofs.YtanabbjakacgbaaDoor.PM Go.Proofs.YtanabbjakacgbaaDoor.Grow
set_option linter.unusedVariables false
set_option linter.unusedSimpArgs false
set_option maxRecDepth 100000
attribute [local go_sem] Oper.semAt_some
theorem Made10_calls (a : List (Int × Int)) (ha : Oct a) (A : Option Addr) (c : Nat) (w : World) (hr : kQ.C w A a.length a) (hc : a.length ≤ c) (l : List Lf) (hl : madeOf (a.take 10) = l) :
    Calls Tryd.prog 11 #[.slice A a.length c, .int .i64 10] w fun e w' => ∃ A' c', e = .returned (.slice A' l.length c') ∧ kL.R 33 w' 0 (fun _ => True) (.slice A' l.length c') l ∧ Below w.heap.size w w' := by
  have h := Made_calls a ha 10 (by decide) A c w hr hc
  rw [hl] at h
  refine h.mono ?_
  rintro e w' ⟨v, rfl, hr2, hb2⟩
  obtain ⟨A', c', rfl⟩ := Kd.R_slice hr2
  exact ⟨A', c', rfl, Kd.R_lower hr2 (Nat.zero_le _), hb2⟩
structure Gq (w : World) (x : Pv) : Prop where
  C : kS.C w x.A x.q.p.length x.q.p
  len : x.q.p.length ≤ 256
  key : x.q.l.k.size ≤ 100000
theorem Gq.below {w w' : World} {x : Pv} (h : Gq w x) (hb : Below w.heap.size w w') : Gq w' x := ⟨Kd.C_below h.C hb, h.len, h.key⟩
theorem ProveP_calls (l : List Lf) (k : ByteArray) (A : Option Addr) (c : Nat) (w : World) (hW : Words w) (hr : kL.R 33 w 0 (fun _ => True) (.slice A l.length c) l) (hl : SmL l) (hk1 : k.size ≤ 100000) (p : Pf) (hp : proveOf l k = p) :
    Calls Tryd.prog 14 #[.slice A l.length c, .string k] w fun e w' => ∃ x : Pv, x.q = p ∧ e = .returned (.agg (cV x)) ∧ Gq w' x ∧ Below w.heap.size w w' := by
  refine (ProveR_calls l k A c w hW hr hl hk1 p hp).mono ?_
  rintro e w' ⟨A', c', C, rfl, rfl, h1, h2⟩
  subst hp
  exact ⟨⟨A', c', proveOf l k⟩, rfl, rfl, ⟨h1, path_len l k, prove_sm hl k⟩, h2⟩
structure Bd0 (w0 : World) (g : Nat) (QQ : Array Value) (g8 : Nat) (r : Sm) (px : Pv) (A Am : Option Addr) (c cm : Nat) (l m : List Lf) (w : World) : Prop where
  below : Below w0.heap.size w0 w
  words : Words w
  bq : w.heap[g]? = some (.cells QQ 39 (0, 0))
  br : w.heap[g8]? = some (.cells (cS r) 27 (0, 0))
  bp : w.heap[g8 + 1]? = some (.cells (cV px) 36 (0, 0))
  gp : Gq w px
  rl : kL.R 33 w 0 (fun _ => True) (.slice A l.length c) l
  rm : kL.R 33 w 0 (fun _ => True) (.slice Am m.length cm) m
theorem Bd0.next {w0 w w' : World} {g g8 c cm : Nat} {QQ : Array Value} {r : Sm} {px : Pv} {A Am : Option Addr} {l m : List Lf} (h : Bd0 w0 g QQ g8 r px A Am c cm l m w) (hb : Below w.heap.size w w') : Bd0 w0 g QQ g8 r px A Am c cm l m w' :=
  ⟨below_tr h.below hb h.below.size, h.words.below hb, at_next h.bq hb, at_next h.br hb, at_next h.bp hb, h.gp.below hb, Kd.R_below h.rl hb, Kd.R_below h.rm hb⟩
structure BdSt (w0 : World) (g8 : Nat) (r : Sm) (px : Pv) (b13 : Nat) (x0 x1 x2 : Pv) (b14 : Nat) (ck : Ck) (w : World) : Prop where
  below : Below w0.heap.size w0 w
  words : Words w
  br : w.heap[g8]? = some (.cells (cS r) 27 (0, 0))
  bp : w.heap[g8 + 1]? = some (.cells (cV px) 36 (0, 0))
  gp : Gq w px
  bv : w.heap[b13]? = some (.cells (cV3 x0 x1 x2) 42 (0, 0))
  g0 : Gp w x0
  g1 : Gp w x1
  g2 : Gp w x2
  bk : w.heap[b14]? = some (.cells (cK ck) 30 (0, 0))
theorem BdSt.next {w0 w w' : World} {g8 b13 b14 : Nat} {r : Sm} {px x0 x1 x2 : Pv} {ck : Ck} (h : BdSt w0 g8 r px b13 x0 x1 x2 b14 ck w) (hb : Below w.heap.size w w') : BdSt w0 g8 r px b13 x0 x1 x2 b14 ck w' :=
  ⟨below_tr h.below hb h.below.size, h.words.below hb, at_next h.br hb, at_next h.bp hb, h.gp.below hb, at_next h.bv hb, h.g0.below hb, h.g1.below hb, h.g2.below hb, at_next h.bk hb⟩
theorem ld_V1 {w : World} {b : Nat} {x : Pv} (hg : w.heap[b]? = some (.cells (cV x) 36 (0, 0))) : (loadVar 36 ⟨b, 0, none⟩).run Tryd.prog w = .ok (.agg (cV x)) w := ld_Pf rfl hg
theorem ld_Q4 {w : World} {b : Nat} {QQ : Array Value} (hs : QQ.size = 4) (hg : w.heap[b]? = some (.cells QQ 39 (0, 0))) : (loadVar 39 ⟨b, 0, none⟩).run Tryd.prog w = .ok (.agg QQ) w := load_row hg 39 Tryd.underlying39 rfl (by rw [hs]; kernel_rfl) 0
theorem ld_K0 {w : World} {b t : Nat} {fr : Nat × Nat} {x : Ck} (h : w.heap[b]? = some (.cells (cK x) t fr)) : (loadVar 27 ⟨b, 0, none⟩).run Tryd.prog w = .ok (.agg (cS x.s)) w :=
  run_loadVar_at w _ 27 _ _ (fun j u hj => by
    rw [add_at, Nat.zero_add, cell_of_row w b _ _ t _ h]
    rw [Array.getElem?_toList] at hj
    have := (Array.getElem?_eq_some_iff.1 hj).1
    rw [cK, Array.append_assoc, Array.getElem?_append_left this]
    exact hj) Tryd.underlying27 rfl (by rw [cS_size]; kernel_rfl)
theorem chain_ok (k : ByteArray) (p : List Sm) (e : Int) (l : Lf) (h : p.length ≤ 256) : (chainOf k p e l).length ≤ 100000 := by
  have := chain_len k p e l
  omega
def bdF (k2 : ByteArray) (B : Nat) (i : Nat) (v : Value) (w : World) : Prop :=
  match i with
  | 2 => ∃ x, v = .agg (cV x) ∧ Gp w x
  | 5 => ∃ x, v = .agg (cV x) ∧ Gp w x
  | 9 => v = .string k2
  | 10 => ∃ x, v = .agg (cV x) ∧ Gp w x
  | 11 => ∃ x y z, v = .agg (cV3 x y z) ∧ Gp w x ∧ Gp w y ∧ Gp w z
  | _ => ∃ b, v = .pointer (some ⟨b, 0, none⟩) ∧ B ≤ b ∧ w.heap[b]? = some (.cells (cV3 zV zV zV) 42 (0, 0))
theorem bdF_mono (k2 : ByteArray) (B : Nat) : ∀ i v w w', bdF k2 B i v w → Below w.heap.size w w' → bdF k2 B i v w' := by
  intro i v w w' h hb
  unfold bdF at h ⊢
  split at h
  · obtain ⟨x, h1, h2⟩ := h; exact ⟨x, h1, h2.below hb⟩
  · obtain ⟨x, h1, h2⟩ := h; exact ⟨x, h1, h2.below hb⟩
  · exact h
  · obtain ⟨x, h1, h2⟩ := h; exact ⟨x, h1, h2.below hb⟩
  · obtain ⟨x, y, z, h1, h2, h3, h4⟩ := h; exact ⟨x, y, z, h1, h2.below hb, h3.below hb, h4.below hb⟩
  · obtain ⟨b, h1, h2, h3⟩ := h; exact ⟨b, h1, h2, at_next h3 hb⟩
def bcF (y : Ck) (B : Nat) (i : Nat) (v : Value) (w : World) : Prop :=
  match i with
  | 5 => v = .agg (cK y)
  | _ => ∃ b, v = .pointer (some ⟨b, 0, none⟩) ∧ B ≤ b ∧ w.heap[b]? = some (.cells (cK zK) 30 (0, 0))
theorem bcF_mono (y : Ck) (B : Nat) : ∀ i v w w', bcF y B i v w → Below w.heap.size w w' → bcF y B i v w' := by
  intro i v w w' h hb
  unfold bcF at h ⊢
  split at h
  · exact h
  · obtain ⟨b, h1, h2, h3⟩ := h; exact ⟨b, h1, h2, at_next h3 hb⟩
theorem infoK : (Tryd.prog.info? 30).map (fun i => (i.zero, i.size)) = some (some (.agg (cK zK)), 34) := by kernel_rfl
theorem zeroK30 : ∀ w, (zeroValue 30).run Tryd.prog w = .ok (.agg (cK zK)) w := by
  intro w
  cases hq : Tryd.prog.info? 30 with
  | none => have := infoK; simp [hq] at this
  | some i =>
    have h := infoK
    rw [hq, Option.map_some] at h
    injection h with h
    simp only [Prod.mk.injEq] at h
    simp [zeroValue, typeInfo, hq, h.1, go_sem]
theorem st_K {w wx wz : World} {b : Nat} {ck : Ck} (hx : w.alloc (.cells (cK zK) 30) = wx) (hb : b = w.heap.size) (hz : wx.setRow b (cK ck) = wz) : wx.heap[b]? = some (.cells (cK zK) 30 (0, 0)) ∧ wz.heap[b]? = some (.cells (cK ck) 30 (0, 0)) ∧ Below w.heap.size w wz := by
  have h0 : wx.heap[b]? = some (.cells (cK zK) 30 (0, 0)) := by rw [← hx]; exact h_new hb
  refine ⟨h0, by rw [← hz]; exact setRow_heap _ _ _ _ _ _ h0, ?_⟩
  rw [← hz, ← hx]
  exact below_setRow (below_alloc (Below.refl _ _) _) (by omega)
set_option maxHeartbeats 4000000 in
theorem binds_calls (a b : List (Int × Int)) (ha : Oct a) (hbo : Oct b) (q0 q1 q2 q3 : Int) (hq0 : 0 ≤ q0 ∧ q0 < 256) (hq1 : 0 ≤ q1 ∧ q1 < 256) (hq2 : 0 ≤ q2 ∧ q2 < 256) (hq3 : 0 ≤ q3 ∧ q3 < 256) (A0 Ab : Option Addr) (c0 cb : Nat) (w : World) (hW : Words w) (hr : kQ.C w A0 a.length a) (hc : a.length ≤ c0) (hrb : kQ.C w Ab b.length b) (hcb : b.length ≤ cb) :
    Calls Tryd.prog 4 #[.slice A0 a.length c0, .slice Ab b.length cb, .agg #[.int .u8 q0, .int .u8 q1, .int .u8 q2, .int .u8 q3]] w fun e w' => e = .returned (.bool true) ∧ Below w.heap.size w w' := by
  obtain ⟨QQ, hQQ⟩ : ∃ Q : Array Value, Q = #[.int .u8 q0, .int .u8 q1, .int .u8 q2, .int .u8 q3] := ⟨_, rfl⟩
  obtain ⟨g, hg⟩ : ∃ g, g = w.heap.size := ⟨_, rfl⟩
  obtain ⟨wb, hwb⟩ : ∃ wb, w.alloc (.cells QQ 39) = wb := ⟨_, rfl⟩
  have hb : Below w.heap.size w wb := by rw [← hwb]; exact below_alloc (Below.refl _ _) _
  have hgq : wb.heap[g]? = some (.cells QQ 39 (0, 0)) := by rw [← hwb]; exact h_new hg
  have HB := Aside0.mk (⟨hb, hgq, hW.below hb, Kd.C_below hr hb, hc, Kd.C_below hrb hb, hcb⟩ : _ ∧ _ ∧ _ ∧ _ ∧ _ ∧ _ ∧ _)
  have HWB := Aside0.mk hwb
  have HG := Aside0.mk hg
  have HA := Aside0.mk (And.intro ha hbo)
  have HQQ := Aside0.mk (And.intro hQQ (show QQ.size = 4 by rw [hQQ]; rfl))
  have HQS := Aside0.mk (⟨hq0, hq1, hq2, hq3⟩ : _ ∧ _ ∧ _ ∧ _)
  obtain ⟨l, hl⟩ : ∃ l, madeOf (a.take 10) = l := ⟨_, rfl⟩
  obtain ⟨m, hm⟩ : ∃ l, madeOf (b.take 10) = l := ⟨_, rfl⟩
  have HL := Aside0.mk (⟨hl, hm, by rw [← hl]; exact made_sm a 10 (by decide), by rw [← hm]; exact made_sm b 10 (by decide)⟩ : madeOf (a.take 10) = l ∧ madeOf (b.take 10) = m ∧ SmL l ∧ SmL m)
  obtain ⟨r, hr0⟩ : ∃ r, rootOf l = r := ⟨_, rfl⟩
  obtain ⟨k, hk0⟩ : ∃ k, keyB q3 = k := ⟨_, rfl⟩
  obtain ⟨k2, hk2⟩ : ∃ k, keyB q1 = k := ⟨_, rfl⟩
  have hks : k.size ≤ 100000 := by rw [← hk0]; show 4 ≤ 100000; decide
  have hks2 : k2.size ≤ 100000 := by rw [← hk2]; show 4 ≤ 100000; decide
  obtain ⟨p, hp⟩ : ∃ p, proveOf l k = p := ⟨_, rfl⟩
  have HR0 := Aside0.mk (⟨hr0, hk0, hp, hks, by rw [← hp]; exact prove_sm HL.out.2.2.1 _, by rw [← hp]; exact path_len l k, hk2, hks2⟩ : rootOf l = r ∧ keyB q3 = k ∧ proveOf l k = p ∧ k.size ≤ 100000 ∧ p.l.k.size ≤ 100000 ∧ p.p.length ≤ 256 ∧ keyB q1 = k2 ∧ k2.size ≤ 100000)
  have HPC := Aside0.mk (show (ckOf r k p.p p.e p.l).o = true by rw [← hr0, ← hp]; obtain ⟨v, b, h, _⟩ := prove_ck l k; rw [h])
  have hce : ∀ W : World, W.heap[g]? = some (.cells QQ 39 (0, 0)) → W.cell? ⟨g, 1, none⟩ = some (.int .u8 q1) ∧ W.cell? ⟨g, 3, none⟩ = some (.int .u8 q3) := fun W h => by
    rw [hQQ] at h
    exact ⟨(cell_of_row W g 1 _ 39 _ h).trans rfl, (cell_of_row W g 3 _ 39 _ h).trans rfl⟩
  have HCE := Aside0.mk hce
  rw [← hQQ]
  clear hce hgq hb hW hr hc hrb hcb ha hbo hl hm hr0 hk0 hk2 hks hks2 hp hwb hg hQQ hq0 hq1 hq2 hq3
  go_enter Tryd.func4, Tryd.ntmps4
  go_wp2_with (first
    | (go_at_call 10; rw [HWB.out, ← HG.out]; (with_reducible refine (sanity_calls wb HB.out.2.2.1).mono ?_); rintro e w1 ⟨rfl, hb1⟩; have H1 := Aside0.mk (⟨below_tr HB.out.1 hb1 HB.out.1.size, HB.out.2.2.1.below hb1, Kd.C_below HB.out.2.2.2.1 hb1, Kd.C_below HB.out.2.2.2.2.2.1 hb1, at_next HB.out.2.1 hb1⟩ : _ ∧ _ ∧ _ ∧ _ ∧ _); clear hb1)
    | (go_at_call 11; (with_reducible refine (Made10_calls a HA.out.1 A0 c0 w1 H1.out.2.2.1 HB.out.2.2.2.2.1 l HL.out.1).mono ?_); rintro e w2 ⟨A, c, rfl, hr2, hb2⟩; have H2 := Aside0.mk (⟨below_tr H1.out.1 hb2 H1.out.1.size, H1.out.2.1.below hb2, hr2, Kd.C_below H1.out.2.2.2.1 hb2, at_next H1.out.2.2.2.2 hb2⟩ : _ ∧ _ ∧ _ ∧ _ ∧ _); clear hr2 hb2)
    | (go_at_call 11; (with_reducible refine (Made10_calls b HA.out.2 Ab cb w2 H2.out.2.2.2.1 HB.out.2.2.2.2.2.2 m HL.out.2.1).mono ?_); rintro e w3 ⟨Am, cm, rfl, hr3, hb3⟩; have H3 := Aside0.mk (⟨below_tr H2.out.1 hb3 H2.out.1.size, H2.out.2.1.below hb3, Kd.R_below H2.out.2.2.1 hb3, hr3, at_next H2.out.2.2.2.2 hb3⟩ : _ ∧ _ ∧ _ ∧ _ ∧ _); clear hr3 hb3; have hx0 := (HCE.out w3 H3.out.2.2.2.2).2)
    | (go_at_call 15; (with_reducible refine (Key_calls q3 HQS.out.2.2.2 w3).mono ?_); rw [HR0.out.2.1]; rintro e w4 ⟨rfl, hb4⟩; clear hx0; have H4 := Aside0.mk (⟨below_tr H3.out.1 hb4 H3.out.1.size, H3.out.2.1.below hb4, Kd.R_below H3.out.2.2.1 hb4, Kd.R_below H3.out.2.2.2.1 hb4, at_next H3.out.2.2.2.2 hb4⟩ : _ ∧ _ ∧ _ ∧ _ ∧ _); clear hb4)
    | (go_at_call 12; (with_reducible refine (RootR_calls l A c w4 H4.out.2.1 H4.out.2.2.1 HL.out.2.2.1 r HR0.out.1).mono ?_); rintro e w5 ⟨rfl, hb5⟩; have H5 := Aside0.mk (⟨below_tr H4.out.1 hb5 H4.out.1.size, H4.out.2.1.below hb5, Kd.R_below H4.out.2.2.1 hb5, Kd.R_below H4.out.2.2.2.1 hb5, at_next H4.out.2.2.2.2 hb5⟩ : _ ∧ _ ∧ _ ∧ _ ∧ _); clear hb5)
    | (go_at_call 14; (with_reducible refine (ProveP_calls l k A c w5 H5.out.2.1 H5.out.2.2.1 HL.out.2.2.1 HR0.out.2.2.2.1 p HR0.out.2.2.1).mono ?_); rintro e w6 ⟨px, hpx, rfl, hp6, hb6⟩; have HPX := Aside0.mk hpx; have H6 := Aside0.mk (⟨below_tr H5.out.1 hb6 H5.out.1.size, H5.out.2.1.below hb6, Kd.R_below H5.out.2.2.1 hb6, Kd.R_below H5.out.2.2.2.1 hb6, at_next H5.out.2.2.2.2 hb6, hp6⟩ : _ ∧ _ ∧ _ ∧ _ ∧ _ ∧ _); clear hb6 hp6 hpx)
    | ((with_reducible refine gate_dst (N := 11) rfl ?_); (refine wpList_allocz rfl 27 (cS zS) rfl zero27 ?_))
    | ((with_reducible refine gate_dst (N := 12) rfl ?_); (refine wpList_allocz rfl 36 (cP (.slice none 0 0) 0 zL) rfl zero36 ?_); rw [size_alloc]; obtain ⟨g8, hg8⟩ : ∃ g, g = w6.heap.size := ⟨_, rfl⟩; obtain ⟨wx, hwx⟩ : ∃ wx, (w6.alloc (.cells (cS zS) 27)).alloc (.cells (cP (.slice none 0 0) 0 zL) 36) = wx := ⟨_, rfl⟩; obtain ⟨wy, hwy⟩ : ∃ wy, (wx.setRow g8 (cS r)).setRow (g8 + 1) (cV px) = wy := ⟨_, rfl⟩; have HTK := Aside0.mk (two_kinds hg8 hwx hwy); have HWX := Aside0.mk hwx; have HWY := Aside0.mk hwy; rw [← hg8]; have HG8 := Aside0.mk hg8; clear hwx hwy hg8)
    | ((with_reducible refine gate_store (t := 27) rfl ?_); rw [HWX.out]; (refine wpList_store_row rfl 27 (.tmp 11) (.tmp 26) rfl g8 (cS r) rfl rfl 27 (cS zS) HTK.out.1 (by rw [cS_size]; kernel_rfl) (by rw [cS_size, cS_size]) (encI_one _) ?_))
    | ((with_reducible refine gate_store (t := 36) rfl ?_); (refine wpList_store_row rfl 36 (.tmp 12) (.tmp 29) rfl (g8 + 1) (cV px) rfl rfl 36 (cP (.slice none 0 0) 0 zL) HTK.out.2.1 (by rw [cV_size]; kernel_rfl) (by rw [cV_size, cP_size]) (all_one (cV_one px)) ?_); (refine at_world (w' := wy) HWY.out ?_); have HY : Aside0 (Bd0 w g QQ g8 r px A Am c cm l m wy) := Aside0.mk ⟨below_tr H6.out.1 HTK.out.2.2.2.2 H6.out.1.size, H6.out.2.1.below HTK.out.2.2.2.2, at_next H6.out.2.2.2.2.1 HTK.out.2.2.2.2, HTK.out.2.2.1, HTK.out.2.2.2.1, H6.out.2.2.2.2.2.below HTK.out.2.2.2.2, Kd.R_below H6.out.2.2.1 HTK.out.2.2.2.2, Kd.R_below H6.out.2.2.2.1 HTK.out.2.2.2.2⟩; have hx1 := cell_P0 HY.out.bp; refine pause_ ?_))
  have c5 : (256 < px.q.p.length) = False := eq_false (by rw [HPX.out]; have := HR0.out.2.2.2.2.2.1; omega)
  have c5i : ((256 : Int) < (px.q.p.length : Int)) = False := eq_false (by rw [HPX.out]; have := HR0.out.2.2.2.2.2.1; omega)
  refine unpause_ ?_
  clear H1 H2 H3 H4 H5 H6 HTK HWX HWY HG8
  go_wp2
  clear hx1 c5i
  refine start_ (n := 14) (S := fun w' => Below wy.heap.size wy w') (ds := [13]) #[false, false, false, false, false, false, false, false, false, false, false, false, false, false] (by kernel_rfl) rfl rfl (Below.refl _ _).drew (fun hHeld => ?_)
  refine take_ (i := 0) (N := some 34) (v := .agg (cV px)) (a' := ?_) #[true, false, false, false, false, false, false, false, false, false, false, false, false, false] rfl rfl (by kernel_rfl) (fun _ _ _ h => h) (Or.inl ⟨by rfl, fun w' hS => yield_load _ _ rfl _ rfl (ld_V1 (HY.out.next hS).bp)⟩) hHeld ?_ ?_
  rotate_left
  · simp only [Act.put, List.setIfInBounds_toArray, List.set_cons_zero, List.set_cons_succ, i64_w, i32_w]
    rfl
  refine take_ (i := 1) (N := some 35) (v := .agg QQ) (a' := ?_) #[true, true, false, false, false, false, false, false, false, false, false, false, false, false] rfl rfl (by kernel_rfl) (fun _ _ _ h => h) (Or.inl ⟨by rfl, fun w' hS => yield_load _ _ rfl _ rfl (ld_Q4 HQQ.out.2 (HY.out.next hS).bq)⟩) hHeld ?_ ?_
  rotate_left
  · simp only [Act.put, List.setIfInBounds_toArray, List.set_cons_zero, List.set_cons_succ, i64_w, i32_w]
    rfl
  refine pure_ (i := 3) (N := some 37) (v := ?_) (a' := ?_) #[true, true, false, true, false, false, false, false, false, false, false, false, false, false] rfl rfl (by kernel_rfl) (fun _ _ _ h => h) (Or.inl ⟨by rfl, ?_⟩) ?_ ?_
  rotate_left
  · intro w'
    go_simp
    with_reducible rfl
  rotate_left
  · simp only [Act.put, List.setIfInBounds_toArray, List.set_cons_zero, List.set_cons_succ, i64_w, i32_w]
    rfl
  refine pure_ (i := 4) (N := some 38) (v := ?_) (a' := ?_) #[true, true, false, true, true, false, false, false, false, false, false, false, false, false] rfl rfl (by kernel_rfl) (fun _ _ _ h => h) (Or.inl ⟨by rfl, ?_⟩) ?_ ?_
  rotate_left
  · intro w'
    go_simp
    with_reducible rfl
  rotate_left
  · simp only [Act.put, List.setIfInBounds_toArray, List.set_cons_zero, List.set_cons_succ, i64_w, i32_w]
    rfl
  refine pure_ (i := 6) (N := some 40) (v := ?_) (a' := ?_) #[true, true, false, true, true, false, true, false, false, false, false, false, false, false] rfl rfl (by kernel_rfl) (fun _ _ _ h => h) (Or.inl ⟨by rfl, ?_⟩) ?_ ?_
  rotate_left
  · intro w'
    go_simp
    with_reducible rfl
  rotate_left
  · simp only [Act.put, List.setIfInBounds_toArray, List.set_cons_zero, List.set_cons_succ, i64_w, i32_w]
    rfl
  refine pure_ (i := 7) (N := some 41) (v := ?_) (a' := ?_) #[true, true, false, true, true, false, true, true, false, false, false, false, false, false] rfl rfl (by kernel_rfl) (fun _ _ _ h => h) (Or.inl ⟨by rfl, ?_⟩) ?_ ?_
  rotate_left
  · intro w'
    go_simp
    with_reducible rfl
  rotate_left
  · simp only [Act.put, List.setIfInBounds_toArray, List.set_cons_zero, List.set_cons_succ, i64_w, i32_w]
    rfl
  refine take_ (i := 8) (N := some 42) (v := ?_) (a' := ?_) #[true, true, false, true, true, false, true, true, true, false, false, false, false, false] rfl rfl (by kernel_rfl) (fun _ _ _ h => h) (Or.inl ⟨by rfl, ?_⟩) hHeld ?_ ?_
  rotate_left
  · intro w' hS
    have hx := (HCE.out w' (HY.out.next hS).bq).1
    go_simp
    with_reducible rfl
  rotate_left
  · simp only [Act.put, List.setIfInBounds_toArray, List.set_cons_zero, List.set_cons_succ, i64_w, i32_w]
    rfl
  refine makers3_ (n := 13) (f := 6) (fe := 1) #[true, true, false, true, true, false, true, true, true, false, false, false, false, false] #[true, true, true, true, true, true, true, true, true, true, true, true, true, false] (by kernel_rfl) [34, 35, 36, 37, 38, 39, 40, 41, 42, 43, 44, 45, 13] (by kernel_rfl) (by kernel_rfl) rfl (bdF k2 wy.drew.heap.size) (fun _ => false) (fun _ h => below_tr hHeld h hHeld.size) (bdF_mono _ _) ?hstep ?hend
  case hstep =>
    intro i o hi hu ho vs w2 hv hb2 hd K hK
    have h0 : vs 0 = .agg (cV px) := hv 0 (by decide) (by decide)
    have h1 : vs 1 = .agg QQ := hv 1 (by decide) (by decide)
    have h3 : vs 3 = .slice Am m.length cm := hv 3 (by decide) (by decide)
    have h4 : vs 4 = .string k := hv 4 (by decide) (by decide)
    have h6 : vs 6 = .slice A l.length c := hv 6 (by decide) (by decide)
    have h8 : vs 8 = .int .u8 q1 := hv 8 (by decide) (by decide)
    have st := HY.out.next (below_tr hHeld hb2 hHeld.size)
    simp only [fil2, List.zipIdx_cons, List.zipIdx_nil, List.foldl_cons, List.foldl_nil, List.setIfInBounds_toArray, List.set_cons_zero, List.set_cons_succ, Nat.zero_add, Nat.reduceAdd] at hK ⊢
    match i, hi, hu, ho, hK, hd with
    | 2, _, _, ho, hK, hd =>
      obtain rfl : _ = o := Option.some.inj ho
      refine gr_go Tryd.func16 (by kernel_rfl) rfl #[.agg (cV px), .agg QQ] rfl (by simp only [List.map_toArray, List.map_cons, List.map_nil]; rw [← h0, ← h1]; rfl) ?_
      refine (oddV_calls px.q q0 q1 q2 q3 HQS.out.1 HQS.out.2.1 HQS.out.2.2.1 HQS.out.2.2.2 px.A px.c _ QQ rfl HQQ.out.1 w2 st.gp.C (by rw [HPX.out]; exact HR0.out.2.2.2.2.2.1) st.gp.key).mono ?_
      rintro e w3 ⟨x, rfl, hg3, hb3⟩
      exact ⟨_, rfl, hK _ _ ⟨x, rfl, hg3⟩ hb3 (fun h => by cases h)⟩
    | 5, _, _, ho, hK, hd =>
      obtain rfl : _ = o := Option.some.inj ho
      refine gr_go Tryd.func17 (by kernel_rfl) rfl #[.slice Am m.length cm, .string k] rfl (by simp only [List.map_toArray, List.map_cons, List.map_nil]; rw [← h3, ← h4]; rfl) ?_
      refine (proveV_calls m k Am cm w2 st.rm HL.out.2.2.2 HR0.out.2.2.2.1).mono ?_
      rintro e w3 ⟨x, rfl, hg3, hb3⟩
      exact ⟨_, rfl, hK _ _ ⟨x, rfl, hg3⟩ hb3 (fun h => by cases h)⟩
    | 9, _, _, ho, hK, hd =>
      obtain rfl : _ = o := Option.some.inj ho
      refine gr_go Tryd.func15 (by kernel_rfl) rfl #[.int .u8 q1] rfl (by simp only [List.map_toArray, List.map_cons, List.map_nil]; rw [← h8]; rfl) ?_
      refine (Key_calls q1 HQS.out.2.1 w2).mono ?_
      rw [HR0.out.2.2.2.2.2.2.1]
      rintro e w3 ⟨rfl, hb3⟩
      exact ⟨_, rfl, hK _ _ rfl hb3 (fun h => by cases h)⟩
    | 10, _, _, ho, hK, hd =>
      obtain rfl : _ = o := Option.some.inj ho
      have h9 : vs 9 = .string k2 := hd ⟨9, .data⟩ (by simp) rfl (by decide) rfl
      refine gr_go Tryd.func17 (by kernel_rfl) rfl #[.slice A l.length c, .string k2] rfl (by simp only [List.map_toArray, List.map_cons, List.map_nil]; rw [← h6, ← h9]; rfl) ?_
      refine (proveV_calls l k2 A c w2 st.rl HL.out.2.2.1 HR0.out.2.2.2.2.2.2.2).mono ?_
      rintro e w3 ⟨x, rfl, hg3, hb3⟩
      exact ⟨_, rfl, hK _ _ ⟨x, rfl, hg3⟩ hb3 (fun h => by cases h)⟩
    | 11, _, _, ho, hK, hd =>
      obtain rfl : _ = o := Option.some.inj ho
      obtain ⟨x, h2, g2⟩ : ∃ x, vs 2 = .agg (cV x) ∧ Gp w2 x := hd ⟨2, .data⟩ (by simp) rfl (by decide) rfl
      obtain ⟨y, h5, g5⟩ : ∃ x, vs 5 = .agg (cV x) ∧ Gp w2 x := hd ⟨5, .data⟩ (by simp) rfl (by decide) rfl
      obtain ⟨z, h10, g10⟩ : ∃ x, vs 10 = .agg (cV x) ∧ Gp w2 x := hd ⟨10, .data⟩ (by simp) rfl (by decide) rfl
      refine gr_val (.agg (cV3 x y z)) ?hy11 (hK _ _ ⟨x, y, z, rfl, g2, g5, g10⟩ (Below.refl _ _) (fun h => by cases h))
      case hy11 => exact yield_built 42 _ rfl (cV3 x y z) [(0, .agg (cV x)), (1, .agg (cV y)), (2, .agg (cV z))] (by simp only [List.map_toArray, List.map_cons, List.map_nil]; rw [← h2, ← h5, ← h10]; rfl) (built_V x y z)
    | 12, _, _, ho, hK, hd =>
      obtain rfl : _ = o := Option.some.inj ho
      exact gr_alloc 42 (.agg (cV3 zV zV zV)) rfl zero42 (hK _ _ ⟨_, rfl, hb2.size, h_new rfl⟩ (below_alloc (Below.refl _ _) _) (fun h => by cases h))
    | 0, _, hu, _, _, _ => exact absurd hu (by decide)
    | 1, _, hu, _, _, _ => exact absurd hu (by decide)
    | 3, _, hu, _, _, _ => exact absurd hu (by decide)
    | 4, _, hu, _, _, _ => exact absurd hu (by decide)
    | 6, _, hu, _, _, _ => exact absurd hu (by decide)
    | 7, _, hu, _, _, _ => exact absurd hu (by decide)
    | 8, _, hu, _, _, _ => exact absurd hu (by decide)
    | _ + 13, hi, _, _, _, _ => exact absurd hi (by omega)
  case hend =>
    intro vs w7 hv hb7 hF hD
    simp only [fil2, List.zipIdx_cons, List.zipIdx_nil, List.foldl_cons, List.foldl_nil, List.setIfInBounds_toArray, List.set_cons_zero, List.set_cons_succ, Nat.zero_add, Nat.reduceAdd]
    obtain ⟨x0, x1, x2, f11, g0, g1, g2⟩ : ∃ x y z, vs 11 = .agg (cV3 x y z) ∧ Gp w7 x ∧ Gp w7 y ∧ Gp w7 z := hF 11 (by decide) rfl
    obtain ⟨b13, f12, B13, h13⟩ : ∃ b, vs 12 = .pointer (some ⟨b, 0, none⟩) ∧ wy.drew.heap.size ≤ b ∧ w7.heap[b]? = some (.cells (cV3 zV zV zV) 42 (0, 0)) := hF 12 (by decide) rfl
    rw [f11, f12]
    have hHeld := below_tr hHeld hb7 hHeld.size
    have B13 : wy.heap.size ≤ b13 := B13
    clear f11 f12 hF hD hv hb7
    generalize vs 0 = v0
    generalize vs 1 = v1
    generalize vs 2 = v2
    generalize vs 3 = v3
    generalize vs 4 = v4
    generalize vs 5 = v5
    generalize vs 6 = v6
    generalize vs 7 = v7
    generalize vs 8 = v8
    generalize vs 9 = v9
    generalize vs 10 = v10
    refine last_ (i := 13) (N := none) #[true, true, true, true, true, true, true, true, true, true, true, true, true, true] rfl rfl (by kernel_rfl) (by decide) (fun K hK => ?_)
    refine st_row (by rfl) rfl 42 (.tmp 13) (.tmp 45) rfl b13 (cV3 x0 x1 x2) rfl rfl 42 (cV3 zV zV zV) h13 (by rw [cV3_size]; kernel_rfl) (by rw [cV3_size, cV3_size]) (cV3_one _ _ _) ?_
    refine hK.out _ _ ?_
    clear hK K
    refine done_ (by kernel_rfl) ?_
    have hHeld : Below wy.heap.size wy (w7.setRow b13 (cV3 x0 x1 x2)) := below_setRow hHeld B13
    obtain ⟨y0, hy0⟩ : ∃ W, w7.setRow b13 (cV3 x0 x1 x2) = W := ⟨_, rfl⟩
    have hz13 : y0.heap[b13]? = some (.cells (cV3 x0 x1 x2) 42 (0, 0)) := by rw [← hy0]; exact setRow_heap _ _ _ _ _ _ h13
    rw [hy0] at hHeld ⊢
    have HC0 := Aside0.mk (⟨HY.out.next hHeld, hz13, by rw [← hy0]; exact g0.row h13 (by decide), by rw [← hy0]; exact g1.row h13 (by decide), by rw [← hy0]; exact g2.row h13 (by decide)⟩ : Bd0 w g QQ g8 r px A Am c cm l m y0 ∧ y0.heap[b13]? = some (.cells (cV3 x0 x1 x2) 42 (0, 0)) ∧ Gp y0 x0 ∧ Gp y0 x1 ∧ Gp y0 x2)
    clear hy0 hz13 hHeld h13 B13 g0 g1 g2 HY
    obtain ⟨ck, hck⟩ : ∃ x, ckOf r k px.q.p px.q.e px.q.l = x := ⟨_, rfl⟩
    have HCK := Aside0.mk (⟨hck, by rw [← hck, HPX.out]; exact HPC.out⟩ : ckOf r k px.q.p px.q.e px.q.l = ck ∧ ck.o = true)
    clear hck HPC
    go_wp2_with (first
      | ((with_reducible refine gate_dst (N := 46) rfl ?_); (refine wpList_loadv rfl 27 _ rfl _ rfl _ (ld_S HC0.out.1.br 0) ?_))
      | ((with_reducible refine gate_dst (N := 48) rfl ?_); (refine wpList_loadv rfl 36 _ rfl _ rfl _ (ld_V1 HC0.out.1.bp) ?_))
      | (go_at_call 13; (with_reducible refine (checkV_calls px r k HR0.out.2.2.2.1 y0 HC0.out.1.words HC0.out.1.gp.C (Nat.le_succ_of_le HC0.out.1.gp.len) HC0.out.1.gp.key ck HCK.out.1).mono ?_); rintro e y1 ⟨rfl, hb⟩; have HB1 := Aside0.mk hb; clear hb)
      | ((with_reducible refine gate_dst (N := 14) rfl ?_); (refine wpList_allocz rfl 30 (cK zK) rfl zeroK30 ?_); obtain ⟨b14, hb14⟩ : ∃ b, b = y1.heap.size := ⟨_, rfl⟩; rw [← hb14]; obtain ⟨yx, hyx⟩ : ∃ W, y1.alloc (.cells (cK zK) 30) = W := ⟨_, rfl⟩; rw [hyx]; obtain ⟨y2, hy2⟩ : ∃ W, yx.setRow b14 (cK ck) = W := ⟨_, rfl⟩; have HK2 := Aside0.mk (st_K hyx hb14 hy2); have HY2 := Aside0.mk hy2; clear hyx hb14 hy2)
      | ((with_reducible refine gate_store (t := 30) rfl ?_); (refine wpList_store_row rfl 30 (.tmp 14) (.tmp 49) rfl b14 (cK ck) rfl rfl 30 (cK zK) HK2.out.1 (by rw [cK_size]; kernel_rfl) (by rw [cK_size, cK_size]) (all_one (cK_one ck)) ?_); (refine at_world (w' := y2) HY2.out ?_); have HST : Aside0 (BdSt w g8 r px b13 x0 x1 x2 b14 ck y2) := (by have hb := below_tr HB1.out HK2.out.2.2 HB1.out.size; have h0 := HC0.out.1.next hb; exact Aside0.mk ⟨h0.below, h0.words, h0.br, h0.bp, h0.gp, at_next HC0.out.2.1 hb, HC0.out.2.2.1.below hb, HC0.out.2.2.2.1.below hb, HC0.out.2.2.2.2.below hb, HK2.out.2.1⟩); refine pause_ ?_))
    clear HC0 HB1 HK2 HY2
    refine unpause_ ?_
    go_wp2
    go_loopw [15] (fun i wr => ∃ n : Nat, i = .int .i64 (n : Int) ∧ n ≤ 3 ∧ Aside0 (BdSt w g8 r px b13 x0 x1 x2 b14 ck wr)) (fun i _ => 3 - (intOf i).toNat)
    case atStart => exact ⟨0, by simp, by omega, HST⟩
    case round =>
      clear HST
      obtain ⟨n, rfl, hn, HS⟩ := hrel
      rcases Nat.lt_or_ge n 3 with hn3 | hn3
      · have c5 : ((n : Int) < 3) = True := eq_true (by omega)
        have c5d : ((0 : Int) ≤ (n : Int)) = True := eq_true (by omega)
        have HN := Aside0.mk hn3
        obtain ⟨xn, hxn⟩ : ∃ x, pick3 x0 x1 x2 n = x := ⟨_, rfl⟩
        have HXN := Aside0.mk (fun (W : World) (h : W.heap[b13]? = some (.cells (cV3 x0 x1 x2) 42 (0, 0))) => (by rw [← hxn]; exact ld_V h n HN.out : (loadVar 36 ⟨b13, n * 35, none⟩).run Tryd.prog W = .ok (.agg (cV xn)) W))
        have HG := Aside0.mk (show Gp wr xn by rw [← hxn]; exact Gp.pick HS.out.g0 HS.out.g1 HS.out.g2 n)
        obtain ⟨y, hy⟩ : ∃ x, ckOf r k xn.q.p xn.q.e xn.q.l = x := ⟨_, rfl⟩
        have HY := Aside0.mk (And.intro hy True.intro)
        obtain ⟨h1, hh1⟩ : ∃ x, chainOf k px.q.p px.q.e px.q.l = x := ⟨_, rfl⟩
        obtain ⟨h2, hh2⟩ : ∃ x, chainOf k xn.q.p xn.q.e xn.q.l = x := ⟨_, rfl⟩
        have HFX := Aside0.mk (⟨HR0.out.2.2.2.1, HS.out.gp.len, hh1, hh2⟩ : k.size ≤ 100000 ∧ px.q.p.length ≤ 256 ∧ chainOf k px.q.p px.q.e px.q.l = h1 ∧ chainOf k xn.q.p xn.q.e xn.q.l = h2)
        clear hxn hy hh1 hh2
        go_wp2
        refine start_ (n := 8) (S := fun w' => Below wr.heap.size wr w') (ds := [7]) #[false, false, false, false, false, false, false, false] (by kernel_rfl) rfl rfl (Below.refl _ _).drew (fun hHeld => ?_)
        refine take_ (i := 0) (N := some 54) (v := .agg (cS r)) (a' := ?_) #[true, false, false, false, false, false, false, false] rfl rfl (by kernel_rfl) (fun _ _ _ h => h) (Or.inl ⟨by rfl, fun w' hS => yield_load _ _ rfl _ rfl (ld_S (HS.out.next hS).br 0)⟩) hHeld ?_ ?_
        rotate_left
        · simp only [Act.put, List.setIfInBounds_toArray, List.set_cons_zero, List.set_cons_succ, i64_w, i32_w]
          rfl
        refine pure_ (i := 1) (N := some 55) (v := ?_) (a' := ?_) #[true, true, false, false, false, false, false, false] rfl rfl (by kernel_rfl) (fun _ _ _ h => h) (Or.inl ⟨by rfl, ?_⟩) ?_ ?_
        rotate_left
        · intro w'
          go_simp
          with_reducible rfl
        rotate_left
        · simp only [Act.put, List.setIfInBounds_toArray, List.set_cons_zero, List.set_cons_succ, i64_w, i32_w]
          rfl
        refine pure_ (i := 2) (N := some 56) (v := ?_) (a' := ?_) #[true, true, true, false, false, false, false, false] rfl rfl (by kernel_rfl) (fun _ _ _ h => h) (Or.inl ⟨by rfl, ?_⟩) ?_ ?_
        rotate_left
        · intro w'
          go_simp
          with_reducible rfl
        rotate_left
        · simp only [Act.put, List.setIfInBounds_toArray, List.set_cons_zero, List.set_cons_succ, i64_w, i32_w]
          rfl
        refine pure_ (i := 3) (N := some 57) (v := ?_) (a' := ?_) #[true, true, true, true, false, false, false, false] rfl rfl (by kernel_rfl) (fun _ _ _ h => h) (Or.inl ⟨by rfl, ?_⟩) ?_ ?_
        rotate_left
        · intro w'
          go_simp
          with_reducible rfl
        rotate_left
        · simp only [Act.put, List.setIfInBounds_toArray, List.set_cons_zero, List.set_cons_succ, i64_w, i32_w]
          rfl
        refine take_ (i := 4) (N := some 58) (v := .agg (cV xn)) (a' := ?_) #[true, true, true, true, true, false, false, false] rfl rfl (by kernel_rfl) (fun _ _ _ h => h) (Or.inl ⟨by rfl, fun w' hS => yield_load _ _ rfl _ rfl (HXN.out w' (HS.out.next hS).bv)⟩) hHeld ?_ ?_
        rotate_left
        · simp only [Act.put, List.setIfInBounds_toArray, List.set_cons_zero, List.set_cons_succ, i64_w, i32_w]
          rfl
        refine makers3_ (n := 7) (f := 2) (fe := 1) #[true, true, true, true, true, false, false, false] #[true, true, true, true, true, true, true, false] (by kernel_rfl) [54, 55, 56, 57, 58, 59, 16] (by kernel_rfl) (by kernel_rfl) rfl (bcF y wr.drew.heap.size) (fun _ => false) (fun _ h => below_tr hHeld h hHeld.size) (bcF_mono _ _) ?hstep ?hend
        case hstep =>
          intro i o hi hu ho vs w2 hv hb2 hd K hK
          have h0 : vs 0 = .agg (cS r) := hv 0 (by decide) (by decide)
          have h1 : vs 1 = .string k := hv 1 (by decide) (by decide)
          have h4 : vs 4 = .agg (cV xn) := hv 4 (by decide) (by decide)
          have hw2 := below_tr hHeld hb2 hHeld.size
          simp only [fil2, List.zipIdx_cons, List.zipIdx_nil, List.foldl_cons, List.foldl_nil, List.setIfInBounds_toArray, List.set_cons_zero, List.set_cons_succ, Nat.zero_add, Nat.reduceAdd] at hK ⊢
          match i, hi, hu, ho, hK, hd with
          | 5, _, _, ho, hK, hd =>
            obtain rfl : _ = o := Option.some.inj ho
            refine gr_go Tryd.func13 (by kernel_rfl) rfl #[.agg (cS r), .string k, .agg (cV xn)] rfl (by simp only [List.map_toArray, List.map_cons, List.map_nil]; rw [← h0, ← h1, ← h4]; rfl) ?_
            refine (checkV_calls xn r k HFX.out.1 w2 (HS.out.next hw2).words (HG.out.below hw2).C HG.out.len HG.out.key y HY.out.1).mono ?_
            rintro e w3 ⟨rfl, hb3⟩
            exact ⟨_, rfl, hK _ _ rfl hb3 (fun h => by cases h)⟩
          | 6, _, _, ho, hK, hd =>
            obtain rfl : _ = o := Option.some.inj ho
            exact gr_alloc 30 (.agg (cK zK)) rfl zeroK30 (hK _ _ ⟨_, rfl, hb2.size, h_new rfl⟩ (below_alloc (Below.refl _ _) _) (fun h => by cases h))
          | 0, _, hu, _, _, _ => exact absurd hu (by decide)
          | 1, _, hu, _, _, _ => exact absurd hu (by decide)
          | 2, _, hu, _, _, _ => exact absurd hu (by decide)
          | 3, _, hu, _, _, _ => exact absurd hu (by decide)
          | 4, _, hu, _, _, _ => exact absurd hu (by decide)
          | _ + 7, hi, _, _, _, _ => exact absurd hi (by omega)
        case hend =>
          intro vs w7 hv hb7 hF hD
          simp only [fil2, List.zipIdx_cons, List.zipIdx_nil, List.foldl_cons, List.foldl_nil, List.setIfInBounds_toArray, List.set_cons_zero, List.set_cons_succ, Nat.zero_add, Nat.reduceAdd]
          have f5 : vs 5 = .agg (cK y) := hF 5 (by decide) rfl
          obtain ⟨b16, f6, B16, h16⟩ : ∃ b, vs 6 = .pointer (some ⟨b, 0, none⟩) ∧ wr.drew.heap.size ≤ b ∧ w7.heap[b]? = some (.cells (cK zK) 30 (0, 0)) := hF 6 (by decide) rfl
          rw [f5, f6]
          have hHeld := below_tr hHeld hb7 hHeld.size
          have B16 : wr.heap.size ≤ b16 := B16
          clear f5 f6 hF hD hv hb7
          generalize vs 0 = v0
          generalize vs 1 = v1
          generalize vs 2 = v2
          generalize vs 3 = v3
          generalize vs 4 = v4
          refine last_ (i := 7) (N := none) #[true, true, true, true, true, true, true, true] rfl rfl (by kernel_rfl) (by decide) (fun K hK => ?_)
          refine st_row (by rfl) rfl 30 (.tmp 16) (.tmp 59) rfl b16 (cK y) rfl rfl 30 (cK zK) h16 (by rw [cK_size]; kernel_rfl) (by rw [cK_size, cK_size]) (all_one (cK_one y)) ?_
          refine hK.out _ _ ?_
          clear hK K
          refine done_ (by kernel_rfl) ?_
          have hHeld : Below wr.heap.size wr (w7.setRow b16 (cK y)) := below_setRow hHeld B16
          obtain ⟨wz, hwz⟩ : ∃ W, w7.setRow b16 (cK y) = W := ⟨_, rfl⟩
          have hz16 : wz.heap[b16]? = some (.cells (cK y) 30 (0, 0)) := by rw [← hwz]; exact setRow_heap _ _ _ _ _ _ h16
          rw [hwz] at hHeld ⊢
          have HZ := Aside0.mk (⟨HS.out.next hHeld, fun W hb => at_next hz16 hb⟩ : BdSt w g8 r px b13 x0 x1 x2 b14 ck wz ∧ ∀ W, Below wz.heap.size wz W → W.heap[b16]? = some (.cells (cK y) 30 (0, 0)))
          have HG := Aside0.mk (HG.out.below hHeld)
          clear hwz hz16 hHeld h16 B16 HS
          go_wp2
          obtain ⟨ys, yi, yo⟩ := y
          obtain ⟨xs, xi, xo⟩ := ck
          cases yo with
          | false =>
            refine start_ (n := 28) (S := fun w' => Below wz.heap.size wz w') (ds := []) #[false, false, false, false, false, false, false, false, false, false, false, false, false, false, false, false, false, false, false, false, false, false, false, false, false, false, false, false] (by kernel_rfl) rfl rfl (Below.refl _ _).drew (fun hHeld => ?_)
            refine pure_ (i := 0) (N := some 60) (v := ?_) (a' := ?_) #[true, false, false, false, false, false, false, false, false, false, false, false, false, false, false, false, false, false, false, false, false, false, false, false, false, false, false, false] rfl rfl (by kernel_rfl) (fun _ _ _ h => h) (Or.inl ⟨by rfl, ?_⟩) ?_ ?_
            rotate_left
            · intro w'
              go_simp
              with_reducible rfl
            rotate_left
            · simp only [Act.put, List.setIfInBounds_toArray, List.set_cons_zero, List.set_cons_succ, i64_w, i32_w]
              rfl
            refine take_ (i := 1) (N := some 61) (v := ?_) (a' := ?_) #[true, true, false, false, false, false, false, false, false, false, false, false, false, false, false, false, false, false, false, false, false, false, false, false, false, false, false, false] rfl rfl (by kernel_rfl) (fun _ _ _ h => h) (Or.inl ⟨by rfl, ?_⟩) hHeld ?_ ?_
            rotate_left
            · intro w' hS
              have hx := cell_K2 (HZ.out.2 w' hS)
              go_simp
              with_reducible rfl
            rotate_left
            · simp only [Act.put, List.setIfInBounds_toArray, List.set_cons_zero, List.set_cons_succ, i64_w, i32_w]
              rfl
            refine pure_ (i := 2) (N := some 62) (v := ?_) (a' := ?_) #[true, true, true, false, false, false, false, false, false, false, false, false, false, false, false, false, false, false, false, false, false, false, false, false, false, false, false, false] rfl rfl (by kernel_rfl) (fun _ _ _ h => h) (Or.inl ⟨by rfl, ?_⟩) ?_ ?_
            rotate_left
            · intro w'
              go_simp
              with_reducible rfl
            rotate_left
            · simp only [Act.put, List.setIfInBounds_toArray, List.set_cons_zero, List.set_cons_succ, i64_w, i32_w]
              rfl
            refine pure_ (i := 3) (N := some 63) (v := undef) (a' := ?_) #[true, true, true, true, false, false, false, false, false, false, false, false, false, false, false, false, false, false, false, false, false, false, false, false, false, false, false, false] rfl rfl (by kernel_rfl) (fun _ _ _ h => h) (Or.inr ⟨by rfl, rfl⟩) ?_ ?_
            rotate_left
            · simp only [Act.put, List.setIfInBounds_toArray, List.set_cons_zero, List.set_cons_succ, i64_w, i32_w]
              rfl
            refine pure_ (i := 4) (N := some 64) (v := undef) (a' := ?_) #[true, true, true, true, true, false, false, false, false, false, false, false, false, false, false, false, false, false, false, false, false, false, false, false, false, false, false, false] rfl rfl (by kernel_rfl) (fun _ _ _ h => h) (Or.inr ⟨by rfl, rfl⟩) ?_ ?_
            rotate_left
            · simp only [Act.put, List.setIfInBounds_toArray, List.set_cons_zero, List.set_cons_succ, i64_w, i32_w]
              rfl
            refine pure_ (i := 5) (N := some 65) (v := undef) (a' := ?_) #[true, true, true, true, true, true, false, false, false, false, false, false, false, false, false, false, false, false, false, false, false, false, false, false, false, false, false, false] rfl rfl (by kernel_rfl) (fun _ _ _ h => h) (Or.inr ⟨by rfl, rfl⟩) ?_ ?_
            rotate_left
            · simp only [Act.put, List.setIfInBounds_toArray, List.set_cons_zero, List.set_cons_succ, i64_w, i32_w]
              rfl
            refine pure_ (i := 6) (N := some 66) (v := undef) (a' := ?_) #[true, true, true, true, true, true, true, false, false, false, false, false, false, false, false, false, false, false, false, false, false, false, false, false, false, false, false, false] rfl rfl (by kernel_rfl) (fun _ _ _ h => h) (Or.inr ⟨by rfl, rfl⟩) ?_ ?_
            rotate_left
            · simp only [Act.put, List.setIfInBounds_toArray, List.set_cons_zero, List.set_cons_succ, i64_w, i32_w]
              rfl
            refine pure_ (i := 7) (N := some 67) (v := undef) (a' := ?_) #[true, true, true, true, true, true, true, true, false, false, false, false, false, false, false, false, false, false, false, false, false, false, false, false, false, false, false, false] rfl rfl (by kernel_rfl) (fun _ _ _ h => h) (Or.inr ⟨by rfl, rfl⟩) ?_ ?_
            rotate_left
            · simp only [Act.put, List.setIfInBounds_toArray, List.set_cons_zero, List.set_cons_succ, i64_w, i32_w]
              rfl
            refine pure_ (i := 8) (N := some 68) (v := undef) (a' := ?_) #[true, true, true, true, true, true, true, true, true, false, false, false, false, false, false, false, false, false, false, false, false, false, false, false, false, false, false, false] rfl rfl (by kernel_rfl) (fun _ _ _ h => h) (Or.inr ⟨by rfl, rfl⟩) ?_ ?_
            rotate_left
            · simp only [Act.put, List.setIfInBounds_toArray, List.set_cons_zero, List.set_cons_succ, i64_w, i32_w]
              rfl
            refine pure_ (i := 9) (N := some 69) (v := undef) (a' := ?_) #[true, true, true, true, true, true, true, true, true, true, false, false, false, false, false, false, false, false, false, false, false, false, false, false, false, false, false, false] rfl rfl (by kernel_rfl) (fun _ _ _ h => h) (Or.inr ⟨by rfl, rfl⟩) ?_ ?_
            rotate_left
            · simp only [Act.put, List.setIfInBounds_toArray, List.set_cons_zero, List.set_cons_succ, i64_w, i32_w]
              rfl
            refine pure_ (i := 10) (N := some 70) (v := undef) (a' := ?_) #[true, true, true, true, true, true, true, true, true, true, true, false, false, false, false, false, false, false, false, false, false, false, false, false, false, false, false, false] rfl rfl (by kernel_rfl) (fun _ _ _ h => h) (Or.inr ⟨by rfl, rfl⟩) ?_ ?_
            rotate_left
            · simp only [Act.put, List.setIfInBounds_toArray, List.set_cons_zero, List.set_cons_succ, i64_w, i32_w]
              rfl
            refine pure_ (i := 11) (N := some 71) (v := undef) (a' := ?_) #[true, true, true, true, true, true, true, true, true, true, true, true, false, false, false, false, false, false, false, false, false, false, false, false, false, false, false, false] rfl rfl (by kernel_rfl) (fun _ _ _ h => h) (Or.inr ⟨by rfl, rfl⟩) ?_ ?_
            rotate_left
            · simp only [Act.put, List.setIfInBounds_toArray, List.set_cons_zero, List.set_cons_succ, i64_w, i32_w]
              rfl
            refine pure_ (i := 12) (N := some 72) (v := undef) (a' := ?_) #[true, true, true, true, true, true, true, true, true, true, true, true, true, false, false, false, false, false, false, false, false, false, false, false, false, false, false, false] rfl rfl (by kernel_rfl) (fun _ _ _ h => h) (Or.inr ⟨by rfl, rfl⟩) ?_ ?_
            rotate_left
            · simp only [Act.put, List.setIfInBounds_toArray, List.set_cons_zero, List.set_cons_succ, i64_w, i32_w]
              rfl
            refine pure_ (i := 13) (N := some 73) (v := undef) (a' := ?_) #[true, true, true, true, true, true, true, true, true, true, true, true, true, true, false, false, false, false, false, false, false, false, false, false, false, false, false, false] rfl rfl (by kernel_rfl) (fun _ _ _ h => h) (Or.inr ⟨by rfl, rfl⟩) ?_ ?_
            rotate_left
            · simp only [Act.put, List.setIfInBounds_toArray, List.set_cons_zero, List.set_cons_succ, i64_w, i32_w]
              rfl
            refine pure_ (i := 14) (N := some 74) (v := undef) (a' := ?_) #[true, true, true, true, true, true, true, true, true, true, true, true, true, true, true, false, false, false, false, false, false, false, false, false, false, false, false, false] rfl rfl (by kernel_rfl) (fun _ _ _ h => h) (Or.inr ⟨by rfl, rfl⟩) ?_ ?_
            rotate_left
            · simp only [Act.put, List.setIfInBounds_toArray, List.set_cons_zero, List.set_cons_succ, i64_w, i32_w]
              rfl
            refine pure_ (i := 15) (N := some 75) (v := ?_) (a' := ?_) #[true, true, true, true, true, true, true, true, true, true, true, true, true, true, true, true, false, false, false, false, false, false, false, false, false, false, false, false] rfl rfl (by kernel_rfl) (fun _ _ _ h => h) (Or.inl ⟨by rfl, ?_⟩) ?_ ?_
            rotate_left
            · intro w'
              go_simp
              with_reducible rfl
            rotate_left
            · simp only [Act.put, List.setIfInBounds_toArray, List.set_cons_zero, List.set_cons_succ, i64_w, i32_w]
              rfl
            refine pure_ (i := 16) (N := some 76) (v := ?_) (a' := ?_) #[true, true, true, true, true, true, true, true, true, true, true, true, true, true, true, true, true, false, false, false, false, false, false, false, false, false, false, false] rfl rfl (by kernel_rfl) (fun _ _ _ h => h) (Or.inl ⟨by rfl, ?_⟩) ?_ ?_
            rotate_left
            · intro w'
              go_simp
              with_reducible rfl
            rotate_left
            · simp only [Act.put, List.setIfInBounds_toArray, List.set_cons_zero, List.set_cons_succ, i64_w, i32_w]
              rfl
            refine pure_ (i := 17) (N := some 77) (v := undef) (a' := ?_) #[true, true, true, true, true, true, true, true, true, true, true, true, true, true, true, true, true, true, false, false, false, false, false, false, false, false, false, false] rfl rfl (by kernel_rfl) (fun _ _ _ h => h) (Or.inr ⟨by rfl, rfl⟩) ?_ ?_
            rotate_left
            · simp only [Act.put, List.setIfInBounds_toArray, List.set_cons_zero, List.set_cons_succ, i64_w, i32_w]
              rfl
            refine pure_ (i := 18) (N := some 78) (v := undef) (a' := ?_) #[true, true, true, true, true, true, true, true, true, true, true, true, true, true, true, true, true, true, true, false, false, false, false, false, false, false, false, false] rfl rfl (by kernel_rfl) (fun _ _ _ h => h) (Or.inr ⟨by rfl, rfl⟩) ?_ ?_
            rotate_left
            · simp only [Act.put, List.setIfInBounds_toArray, List.set_cons_zero, List.set_cons_succ, i64_w, i32_w]
              rfl
            refine pure_ (i := 20) (N := some 80) (v := undef) (a' := ?_) #[true, true, true, true, true, true, true, true, true, true, true, true, true, true, true, true, true, true, true, false, true, false, false, false, false, false, false, false] rfl rfl (by kernel_rfl) (fun _ _ _ h => h) (Or.inr ⟨by rfl, rfl⟩) ?_ ?_
            rotate_left
            · simp only [Act.put, List.setIfInBounds_toArray, List.set_cons_zero, List.set_cons_succ, i64_w, i32_w]
              rfl
            refine pure_ (i := 21) (N := some 81) (v := undef) (a' := ?_) #[true, true, true, true, true, true, true, true, true, true, true, true, true, true, true, true, true, true, true, false, true, true, false, false, false, false, false, false] rfl rfl (by kernel_rfl) (fun _ _ _ h => h) (Or.inr ⟨by rfl, rfl⟩) ?_ ?_
            rotate_left
            · simp only [Act.put, List.setIfInBounds_toArray, List.set_cons_zero, List.set_cons_succ, i64_w, i32_w]
              rfl
            refine pure_ (i := 22) (N := some 82) (v := undef) (a' := ?_) #[true, true, true, true, true, true, true, true, true, true, true, true, true, true, true, true, true, true, true, false, true, true, true, false, false, false, false, false] rfl rfl (by kernel_rfl) (fun _ _ _ h => h) (Or.inr ⟨by rfl, rfl⟩) ?_ ?_
            rotate_left
            · simp only [Act.put, List.setIfInBounds_toArray, List.set_cons_zero, List.set_cons_succ, i64_w, i32_w]
              rfl
            refine pure_ (i := 23) (N := some 83) (v := undef) (a' := ?_) #[true, true, true, true, true, true, true, true, true, true, true, true, true, true, true, true, true, true, true, false, true, true, true, true, false, false, false, false] rfl rfl (by kernel_rfl) (fun _ _ _ h => h) (Or.inr ⟨by rfl, rfl⟩) ?_ ?_
            rotate_left
            · simp only [Act.put, List.setIfInBounds_toArray, List.set_cons_zero, List.set_cons_succ, i64_w, i32_w]
              rfl
            refine one_ (i := 19) (N := some 79) #[true, true, true, true, true, true, true, true, true, true, true, true, true, true, true, true, true, true, true, true, true, true, true, true, false, false, false, false] rfl rfl (by kernel_rfl) (by decide) (fun K hK => ?_)
            refine off_ (by rfl) ?_
            refine hK.out _ _ hHeld (fun hHeld => ?_)
            clear hK K
            refine norm_ (a' := ?_) ?_ ?_
            rotate_left
            · show Act.put _ (some 79) _ = _
              simp only [Act.put, List.setIfInBounds_toArray, List.set_cons_zero, List.set_cons_succ, i64_w, i32_w]
              rfl
            refine one_ (i := 24) (N := some 84) #[true, true, true, true, true, true, true, true, true, true, true, true, true, true, true, true, true, true, true, true, true, true, true, true, true, false, false, false] rfl rfl (by kernel_rfl) (by decide) (fun K hK => ?_)
            refine off_ (by rfl) ?_
            refine hK.out _ _ hHeld (fun hHeld => ?_)
            clear hK K
            refine norm_ (a' := ?_) ?_ ?_
            rotate_left
            · show Act.put _ (some 84) _ = _
              simp only [Act.put, List.setIfInBounds_toArray, List.set_cons_zero, List.set_cons_succ, i64_w, i32_w]
              rfl
            refine one_ (i := 25) (N := some 85) #[true, true, true, true, true, true, true, true, true, true, true, true, true, true, true, true, true, true, true, true, true, true, true, true, true, true, false, false] rfl rfl (by kernel_rfl) (by decide) (fun K hK => ?_)
            refine off_ (by rfl) ?_
            refine hK.out _ _ hHeld (fun hHeld => ?_)
            clear hK K
            refine norm_ (a' := ?_) ?_ ?_
            rotate_left
            · show Act.put _ (some 85) _ = _
              simp only [Act.put, List.setIfInBounds_toArray, List.set_cons_zero, List.set_cons_succ, i64_w, i32_w]
              rfl
            refine pure_ (i := 26) (N := some 86) (v := undef) (a' := ?_) #[true, true, true, true, true, true, true, true, true, true, true, true, true, true, true, true, true, true, true, true, true, true, true, true, true, true, true, false] rfl rfl (by kernel_rfl) (fun _ _ _ h => h) (Or.inr ⟨by rfl, rfl⟩) ?_ ?_
            rotate_left
            · simp only [Act.put, List.setIfInBounds_toArray, List.set_cons_zero, List.set_cons_succ, i64_w, i32_w]
              rfl
            refine pure_ (i := 27) (N := some 87) (v := ?_) (a' := ?_) #[true, true, true, true, true, true, true, true, true, true, true, true, true, true, true, true, true, true, true, true, true, true, true, true, true, true, true, true] rfl rfl (by kernel_rfl) (fun _ _ _ h => h) (Or.inl ⟨by rfl, ?_⟩) ?_ ?_
            rotate_left
            · intro w'
              go_simp
              with_reducible rfl
            rotate_left
            · simp only [Act.put, List.setIfInBounds_toArray, List.set_cons_zero, List.set_cons_succ, i64_w, i32_w]
              rfl
            refine done_ (by kernel_rfl) ?_
            have HQ := Aside0.mk (HZ.out.1.next hHeld)
            clear hHeld
            as_aux_lemma =>
              go_wp2
              exact ⟨⟨n + 1, by simp, by omega, HQ⟩, by simp [intOf]; omega⟩
          | true =>
            have HYO := Aside0.mk (rfl : (⟨ys, yi, true⟩ : Ck).o = true)
            obtain ⟨di, hdi⟩ : ∃ d, (!(yi == xi)) = d := ⟨_, rfl⟩
            have HDI := Aside0.mk hdi
            obtain ⟨dq, hdq⟩ : ∃ d, decide (ys = xs) = d := ⟨_, rfl⟩
            have HDQ := Aside0.mk (fun w => (by rw [eqS, hdq] : (Op.equal 27 (.agg (cS ys)) (.agg (cS xs))).run Tryd.prog w = .ok dq w))
            have HDX := Aside0.mk hdq
            clear hdi hdq
            refine start_ (n := 28) (S := fun w' => Below wz.heap.size wz w') (ds := []) #[false, false, false, false, false, false, false, false, false, false, false, false, false, false, false, false, false, false, false, false, false, false, false, false, false, false, false, false] (by kernel_rfl) rfl rfl (Below.refl _ _).drew (fun hHeld => ?_)
            refine pure_ (i := 0) (N := some 60) (v := ?_) (a' := ?_) #[true, false, false, false, false, false, false, false, false, false, false, false, false, false, false, false, false, false, false, false, false, false, false, false, false, false, false, false] rfl rfl (by kernel_rfl) (fun _ _ _ h => h) (Or.inl ⟨by rfl, ?_⟩) ?_ ?_
            rotate_left
            · intro w'
              go_simp
              with_reducible rfl
            rotate_left
            · simp only [Act.put, List.setIfInBounds_toArray, List.set_cons_zero, List.set_cons_succ, i64_w, i32_w]
              rfl
            refine take_ (i := 1) (N := some 61) (v := ?_) (a' := ?_) #[true, true, false, false, false, false, false, false, false, false, false, false, false, false, false, false, false, false, false, false, false, false, false, false, false, false, false, false] rfl rfl (by kernel_rfl) (fun _ _ _ h => h) (Or.inl ⟨by rfl, ?_⟩) hHeld ?_ ?_
            rotate_left
            · intro w' hS
              have hx := cell_K2 (HZ.out.2 w' hS)
              go_simp
              with_reducible rfl
            rotate_left
            · simp only [Act.put, List.setIfInBounds_toArray, List.set_cons_zero, List.set_cons_succ, i64_w, i32_w]
              rfl
            refine pure_ (i := 2) (N := some 62) (v := ?_) (a' := ?_) #[true, true, true, false, false, false, false, false, false, false, false, false, false, false, false, false, false, false, false, false, false, false, false, false, false, false, false, false] rfl rfl (by kernel_rfl) (fun _ _ _ h => h) (Or.inl ⟨by rfl, ?_⟩) ?_ ?_
            rotate_left
            · intro w'
              go_simp
              with_reducible rfl
            rotate_left
            · simp only [Act.put, List.setIfInBounds_toArray, List.set_cons_zero, List.set_cons_succ, i64_w, i32_w]
              rfl
            refine pure_ (i := 3) (N := some 63) (v := ?_) (a' := ?_) #[true, true, true, true, false, false, false, false, false, false, false, false, false, false, false, false, false, false, false, false, false, false, false, false, false, false, false, false] rfl rfl (by kernel_rfl) (fun _ _ _ h => h) (Or.inl ⟨by rfl, ?_⟩) ?_ ?_
            rotate_left
            · intro w'
              go_simp
              with_reducible rfl
            rotate_left
            · simp only [Act.put, List.setIfInBounds_toArray, List.set_cons_zero, List.set_cons_succ, i64_w, i32_w]
              rfl
            refine take_ (i := 4) (N := some 64) (v := ?_) (a' := ?_) #[true, true, true, true, true, false, false, false, false, false, false, false, false, false, false, false, false, false, false, false, false, false, false, false, false, false, false, false] rfl rfl (by kernel_rfl) (fun _ _ _ h => h) (Or.inl ⟨by rfl, ?_⟩) hHeld ?_ ?_
            rotate_left
            · intro w' hS
              have hx := cell_K1 (HZ.out.2 w' hS)
              go_simp
              with_reducible rfl
            rotate_left
            · simp only [Act.put, List.setIfInBounds_toArray, List.set_cons_zero, List.set_cons_succ, i64_w, i32_w]
              rfl
            refine pure_ (i := 5) (N := some 65) (v := ?_) (a' := ?_) #[true, true, true, true, true, true, false, false, false, false, false, false, false, false, false, false, false, false, false, false, false, false, false, false, false, false, false, false] rfl rfl (by kernel_rfl) (fun _ _ _ h => h) (Or.inl ⟨by rfl, ?_⟩) ?_ ?_
            rotate_left
            · intro w'
              go_simp
              with_reducible rfl
            rotate_left
            · simp only [Act.put, List.setIfInBounds_toArray, List.set_cons_zero, List.set_cons_succ, i64_w, i32_w]
              rfl
            refine take_ (i := 6) (N := some 66) (v := ?_) (a' := ?_) #[true, true, true, true, true, true, true, false, false, false, false, false, false, false, false, false, false, false, false, false, false, false, false, false, false, false, false, false] rfl rfl (by kernel_rfl) (fun _ _ _ h => h) (Or.inl ⟨by rfl, ?_⟩) hHeld ?_ ?_
            rotate_left
            · intro w' hS
              have hx := cell_K1 (HZ.out.1.next hS).bk
              go_simp
              with_reducible rfl
            rotate_left
            · simp only [Act.put, List.setIfInBounds_toArray, List.set_cons_zero, List.set_cons_succ, i64_w, i32_w]
              rfl
            refine pure_ (i := 7) (N := some 67) (v := ?_) (a' := ?_) #[true, true, true, true, true, true, true, true, false, false, false, false, false, false, false, false, false, false, false, false, false, false, false, false, false, false, false, false] rfl rfl (by kernel_rfl) (fun _ _ _ h => h) (Or.inl ⟨by rfl, ?_⟩) ?_ ?_
            rotate_left
            · intro w'
              go_simp
              rw [HDI.out]
              try with_reducible rfl
            rotate_left
            · simp only [Act.put, List.setIfInBounds_toArray, List.set_cons_zero, List.set_cons_succ, i64_w, i32_w]
              rfl
            refine pure_ (i := 8) (N := some 68) (v := ?_) (a' := ?_) #[true, true, true, true, true, true, true, true, true, false, false, false, false, false, false, false, false, false, false, false, false, false, false, false, false, false, false, false] rfl rfl (by kernel_rfl) (fun _ _ _ h => h) (Or.inl ⟨by rfl, ?_⟩) ?_ ?_
            rotate_left
            · intro w'
              go_simp
              with_reducible rfl
            rotate_left
            · simp only [Act.put, List.setIfInBounds_toArray, List.set_cons_zero, List.set_cons_succ, i64_w, i32_w]
              rfl
            cases di with
            | true =>
              have HNE := Aside0.mk (show (⟨ys, yi, true⟩ : Ck).i ≠ (⟨xs, xi, xo⟩ : Ck).i ∨ (⟨ys, yi, true⟩ : Ck).s ≠ (⟨xs, xi, xo⟩ : Ck).s from Or.inl (fun e => by have h := HDI.out; rw [show yi = xi from e] at h; simp at h))
              refine pure_ (i := 9) (N := some 69) (v := undef) (a' := ?_) #[true, true, true, true, true, true, true, true, true, true, false, false, false, false, false, false, false, false, false, false, false, false, false, false, false, false, false, false] rfl rfl (by kernel_rfl) (fun _ _ _ h => h) (Or.inr ⟨by rfl, rfl⟩) ?_ ?_
              rotate_left
              · simp only [Act.put, List.setIfInBounds_toArray, List.set_cons_zero, List.set_cons_succ, i64_w, i32_w]
                rfl
              refine pure_ (i := 10) (N := some 70) (v := undef) (a' := ?_) #[true, true, true, true, true, true, true, true, true, true, true, false, false, false, false, false, false, false, false, false, false, false, false, false, false, false, false, false] rfl rfl (by kernel_rfl) (fun _ _ _ h => h) (Or.inr ⟨by rfl, rfl⟩) ?_ ?_
              rotate_left
              · simp only [Act.put, List.setIfInBounds_toArray, List.set_cons_zero, List.set_cons_succ, i64_w, i32_w]
                rfl
              refine pure_ (i := 11) (N := some 71) (v := undef) (a' := ?_) #[true, true, true, true, true, true, true, true, true, true, true, true, false, false, false, false, false, false, false, false, false, false, false, false, false, false, false, false] rfl rfl (by kernel_rfl) (fun _ _ _ h => h) (Or.inr ⟨by rfl, rfl⟩) ?_ ?_
              rotate_left
              · simp only [Act.put, List.setIfInBounds_toArray, List.set_cons_zero, List.set_cons_succ, i64_w, i32_w]
                rfl
              refine pure_ (i := 12) (N := some 72) (v := undef) (a' := ?_) #[true, true, true, true, true, true, true, true, true, true, true, true, true, false, false, false, false, false, false, false, false, false, false, false, false, false, false, false] rfl rfl (by kernel_rfl) (fun _ _ _ h => h) (Or.inr ⟨by rfl, rfl⟩) ?_ ?_
              rotate_left
              · simp only [Act.put, List.setIfInBounds_toArray, List.set_cons_zero, List.set_cons_succ, i64_w, i32_w]
                rfl
              refine pure_ (i := 13) (N := some 73) (v := undef) (a' := ?_) #[true, true, true, true, true, true, true, true, true, true, true, true, true, true, false, false, false, false, false, false, false, false, false, false, false, false, false, false] rfl rfl (by kernel_rfl) (fun _ _ _ h => h) (Or.inr ⟨by rfl, rfl⟩) ?_ ?_
              rotate_left
              · simp only [Act.put, List.setIfInBounds_toArray, List.set_cons_zero, List.set_cons_succ, i64_w, i32_w]
                rfl
              refine pure_ (i := 14) (N := some 74) (v := ?_) (a' := ?_) #[true, true, true, true, true, true, true, true, true, true, true, true, true, true, true, false, false, false, false, false, false, false, false, false, false, false, false, false] rfl rfl (by kernel_rfl) (fun _ _ _ h => h) (Or.inl ⟨by rfl, ?_⟩) ?_ ?_
              rotate_left
              · intro w'
                go_simp
                with_reducible rfl
              rotate_left
              · simp only [Act.put, List.setIfInBounds_toArray, List.set_cons_zero, List.set_cons_succ, i64_w, i32_w]
                rfl
              refine pure_ (i := 15) (N := some 75) (v := ?_) (a' := ?_) #[true, true, true, true, true, true, true, true, true, true, true, true, true, true, true, true, false, false, false, false, false, false, false, false, false, false, false, false] rfl rfl (by kernel_rfl) (fun _ _ _ h => h) (Or.inl ⟨by rfl, ?_⟩) ?_ ?_
              rotate_left
              · intro w'
                go_simp
                with_reducible rfl
              rotate_left
              · simp only [Act.put, List.setIfInBounds_toArray, List.set_cons_zero, List.set_cons_succ, i64_w, i32_w]
                rfl
              refine pure_ (i := 16) (N := some 76) (v := ?_) (a' := ?_) #[true, true, true, true, true, true, true, true, true, true, true, true, true, true, true, true, true, false, false, false, false, false, false, false, false, false, false, false] rfl rfl (by kernel_rfl) (fun _ _ _ h => h) (Or.inl ⟨by rfl, ?_⟩) ?_ ?_
              rotate_left
              · intro w'
                go_simp
                with_reducible rfl
              rotate_left
              · simp only [Act.put, List.setIfInBounds_toArray, List.set_cons_zero, List.set_cons_succ, i64_w, i32_w]
                rfl
              refine take_ (i := 18) (N := some 78) (v := .agg (cV px)) (a' := ?_) #[true, true, true, true, true, true, true, true, true, true, true, true, true, true, true, true, true, false, true, false, false, false, false, false, false, false, false, false] rfl rfl (by kernel_rfl) (fun _ _ _ h => h) (Or.inl ⟨by rfl, fun w' hS => yield_load _ _ rfl _ rfl (ld_V1 (HZ.out.1.next hS).bp)⟩) hHeld ?_ ?_
              rotate_left
              · simp only [Act.put, List.setIfInBounds_toArray, List.set_cons_zero, List.set_cons_succ, i64_w, i32_w]
                rfl
              refine pure_ (i := 17) (N := some 77) (v := ?_) (a' := ?_) #[true, true, true, true, true, true, true, true, true, true, true, true, true, true, true, true, true, true, true, false, false, false, false, false, false, false, false, false] rfl rfl (by kernel_rfl) (fun _ _ _ h => h) (Or.inl ⟨by rfl, ?_⟩) ?_ ?_
              rotate_left
              · intro w'
                go_simp
                with_reducible rfl
              rotate_left
              · simp only [Act.put, List.setIfInBounds_toArray, List.set_cons_zero, List.set_cons_succ, i64_w, i32_w]
                rfl
              refine pure_ (i := 20) (N := some 80) (v := ?_) (a' := ?_) #[true, true, true, true, true, true, true, true, true, true, true, true, true, true, true, true, true, true, true, false, true, false, false, false, false, false, false, false] rfl rfl (by kernel_rfl) (fun _ _ _ h => h) (Or.inl ⟨by rfl, ?_⟩) ?_ ?_
              rotate_left
              · intro w'
                go_simp
                with_reducible rfl
              rotate_left
              · simp only [Act.put, List.setIfInBounds_toArray, List.set_cons_zero, List.set_cons_succ, i64_w, i32_w]
                rfl
              refine pure_ (i := 21) (N := some 81) (v := ?_) (a' := ?_) #[true, true, true, true, true, true, true, true, true, true, true, true, true, true, true, true, true, true, true, false, true, true, false, false, false, false, false, false] rfl rfl (by kernel_rfl) (fun _ _ _ h => h) (Or.inl ⟨by rfl, ?_⟩) ?_ ?_
              rotate_left
              · intro w'
                go_simp
                with_reducible rfl
              rotate_left
              · simp only [Act.put, List.setIfInBounds_toArray, List.set_cons_zero, List.set_cons_succ, i64_w, i32_w]
                rfl
              refine pure_ (i := 22) (N := some 82) (v := ?_) (a' := ?_) #[true, true, true, true, true, true, true, true, true, true, true, true, true, true, true, true, true, true, true, false, true, true, true, false, false, false, false, false] rfl rfl (by kernel_rfl) (fun _ _ _ h => h) (Or.inl ⟨by rfl, ?_⟩) ?_ ?_
              rotate_left
              · intro w'
                go_simp
                with_reducible rfl
              rotate_left
              · simp only [Act.put, List.setIfInBounds_toArray, List.set_cons_zero, List.set_cons_succ, i64_w, i32_w]
                rfl
              refine take_ (i := 23) (N := some 83) (v := .agg (cV xn)) (a' := ?_) #[true, true, true, true, true, true, true, true, true, true, true, true, true, true, true, true, true, true, true, false, true, true, true, true, false, false, false, false] rfl rfl (by kernel_rfl) (fun _ _ _ h => h) (Or.inl ⟨by rfl, fun w' hS => yield_load _ _ rfl _ rfl (HXN.out w' (HZ.out.1.next hS).bv)⟩) hHeld ?_ ?_
              rotate_left
              · simp only [Act.put, List.setIfInBounds_toArray, List.set_cons_zero, List.set_cons_succ, i64_w, i32_w]
                rfl
              have HMT := Aside0.mk (show metB h1 h2 = true by rw [← HFX.out.2.2.1, ← HFX.out.2.2.2]; exact binds_met r k px.q.p xn.q.p px.q.e xn.q.e px.q.l xn.q.l (by rw [HCK.out.1]; exact HCK.out.2) (by rw [HY.out.1]) (by rw [HY.out.1, HCK.out.1]; exact HNE.out))
              refine one_ (i := 19) (N := some 79) #[true, true, true, true, true, true, true, true, true, true, true, true, true, true, true, true, true, true, true, true, true, true, true, true, false, false, false, false] rfl rfl (by kernel_rfl) (by decide) (fun K hK => ?_)
              refine goes_ Tryd.func19 (by kernel_rfl) rfl #[.string k, .agg (cV px)] (by rfl) rfl rfl (by simp only [List.map_toArray, List.map_cons, List.map_nil]; rfl) ?_
              refine (chainV_calls px k HFX.out.1 _ (HZ.out.1.next hHeld).gp.C HFX.out.2.1 (HZ.out.1.next hHeld).gp.key h1 HFX.out.2.2.1).mono ?_
              rintro e u1 ⟨A1, c1, rfl, hr1, hb1⟩
              refine ⟨_, rfl, ?_⟩
              have H7 := Aside0.mk hr1
              clear hr1
              refine hK.out _ _ (below_tr hHeld hb1 hHeld.size) (fun hHeld => ?_)
              clear hK K
              refine norm_ (a' := ?_) ?_ ?_
              rotate_left
              · show Act.put _ (some 79) _ = _
                simp only [Act.put, List.setIfInBounds_toArray, List.set_cons_zero, List.set_cons_succ, i64_w, i32_w]
                rfl
              refine one_ (i := 24) (N := some 84) #[true, true, true, true, true, true, true, true, true, true, true, true, true, true, true, true, true, true, true, true, true, true, true, true, true, false, false, false] rfl rfl (by kernel_rfl) (by decide) (fun K hK => ?_)
              refine goes_ Tryd.func19 (by kernel_rfl) rfl #[.string k, .agg (cV xn)] (by rfl) rfl rfl (by simp only [List.map_toArray, List.map_cons, List.map_nil]; rfl) ?_
              refine (chainV_calls xn k HFX.out.1 _ (HG.out.below hHeld).C (ck_len (root := r) (k := k) (e := xn.q.e) (l := xn.q.l) (by rw [HY.out.1])) HG.out.key h2 HFX.out.2.2.2).mono ?_
              rintro e u2 ⟨A2, c2, rfl, hr2, hb2⟩
              refine ⟨_, rfl, ?_⟩
              have H7 := Aside0.mk (And.intro (H7.out.below hb2) hr2)
              clear hr2
              refine hK.out _ _ (below_tr hHeld hb2 hHeld.size) (fun hHeld => ?_)
              clear hK K
              refine norm_ (a' := ?_) ?_ ?_
              rotate_left
              · show Act.put _ (some 84) _ = _
                simp only [Act.put, List.setIfInBounds_toArray, List.set_cons_zero, List.set_cons_succ, i64_w, i32_w]
                rfl
              refine one_ (i := 25) (N := some 85) #[true, true, true, true, true, true, true, true, true, true, true, true, true, true, true, true, true, true, true, true, true, true, true, true, true, true, false, false] rfl rfl (by kernel_rfl) (by decide) (fun K hK => ?_)
              refine goes_ Tryd.func18 (by kernel_rfl) rfl #[.slice A1 h1.length c1, .slice A2 h2.length c2] (by rfl) rfl rfl (by simp only [List.map_toArray, List.map_cons, List.map_nil]; rfl) ?_
              refine (Met_calls h1 h2 A1 A2 c1 c2 _ H7.out.1 H7.out.2 (by rw [← HFX.out.2.2.1]; exact chain_ok _ _ _ _ HFX.out.2.1) (by rw [← HFX.out.2.2.2]; exact chain_ok _ _ _ _ (ck_len (root := r) (k := k) (e := xn.q.e) (l := xn.q.l) (by rw [HY.out.1])))).mono ?_
              rw [HMT.out]
              rintro e w8 ⟨rfl, hb8⟩
              refine ⟨_, rfl, ?_⟩
              refine hK.out _ _ (below_tr hHeld hb8 hHeld.size) (fun hHeld => ?_)
              clear hK K
              refine norm_ (a' := ?_) ?_ ?_
              rotate_left
              · show Act.put _ (some 85) _ = _
                simp only [Act.put, List.setIfInBounds_toArray, List.set_cons_zero, List.set_cons_succ, i64_w, i32_w]
                rfl
              refine pure_ (i := 26) (N := some 86) (v := ?_) (a' := ?_) #[true, true, true, true, true, true, true, true, true, true, true, true, true, true, true, true, true, true, true, true, true, true, true, true, true, true, true, false] rfl rfl (by kernel_rfl) (fun _ _ _ h => h) (Or.inl ⟨by rfl, ?_⟩) ?_ ?_
              rotate_left
              · intro w'
                go_simp
                with_reducible rfl
              rotate_left
              · simp only [Act.put, List.setIfInBounds_toArray, List.set_cons_zero, List.set_cons_succ, i64_w, i32_w]
                rfl
              refine pure_ (i := 27) (N := some 87) (v := ?_) (a' := ?_) #[true, true, true, true, true, true, true, true, true, true, true, true, true, true, true, true, true, true, true, true, true, true, true, true, true, true, true, true] rfl rfl (by kernel_rfl) (fun _ _ _ h => h) (Or.inl ⟨by rfl, ?_⟩) ?_ ?_
              rotate_left
              · intro w'
                go_simp
                with_reducible rfl
              rotate_left
              · simp only [Act.put, List.setIfInBounds_toArray, List.set_cons_zero, List.set_cons_succ, i64_w, i32_w]
                rfl
              refine done_ (by kernel_rfl) ?_
              have HQ := Aside0.mk (HZ.out.1.next hHeld)
              clear hHeld
              as_aux_lemma =>
                go_wp2
                exact ⟨⟨n + 1, by simp, by omega, HQ⟩, by simp [intOf]; omega⟩
            | false =>
              refine pure_ (i := 9) (N := some 69) (v := ?_) (a' := ?_) #[true, true, true, true, true, true, true, true, true, true, false, false, false, false, false, false, false, false, false, false, false, false, false, false, false, false, false, false] rfl rfl (by kernel_rfl) (fun _ _ _ h => h) (Or.inl ⟨by rfl, ?_⟩) ?_ ?_
              rotate_left
              · intro w'
                go_simp
                with_reducible rfl
              rotate_left
              · simp only [Act.put, List.setIfInBounds_toArray, List.set_cons_zero, List.set_cons_succ, i64_w, i32_w]
                rfl
              refine take_ (i := 10) (N := some 70) (v := .agg (cS ys)) (a' := ?_) #[true, true, true, true, true, true, true, true, true, true, true, false, false, false, false, false, false, false, false, false, false, false, false, false, false, false, false, false] rfl rfl (by kernel_rfl) (fun _ _ _ h => h) (Or.inl ⟨by rfl, fun w' hS => yield_load _ _ rfl _ rfl (ld_K0 (HZ.out.2 w' hS))⟩) hHeld ?_ ?_
              rotate_left
              · simp only [Act.put, List.setIfInBounds_toArray, List.set_cons_zero, List.set_cons_succ, i64_w, i32_w]
                rfl
              refine pure_ (i := 11) (N := some 71) (v := ?_) (a' := ?_) #[true, true, true, true, true, true, true, true, true, true, true, true, false, false, false, false, false, false, false, false, false, false, false, false, false, false, false, false] rfl rfl (by kernel_rfl) (fun _ _ _ h => h) (Or.inl ⟨by rfl, ?_⟩) ?_ ?_
              rotate_left
              · intro w'
                go_simp
                with_reducible rfl
              rotate_left
              · simp only [Act.put, List.setIfInBounds_toArray, List.set_cons_zero, List.set_cons_succ, i64_w, i32_w]
                rfl
              refine take_ (i := 12) (N := some 72) (v := .agg (cS xs)) (a' := ?_) #[true, true, true, true, true, true, true, true, true, true, true, true, true, false, false, false, false, false, false, false, false, false, false, false, false, false, false, false] rfl rfl (by kernel_rfl) (fun _ _ _ h => h) (Or.inl ⟨by rfl, fun w' hS => yield_load _ _ rfl _ rfl (ld_K0 (HZ.out.1.next hS).bk)⟩) hHeld ?_ ?_
              rotate_left
              · simp only [Act.put, List.setIfInBounds_toArray, List.set_cons_zero, List.set_cons_succ, i64_w, i32_w]
                rfl
              refine pure_ (i := 13) (N := some 73) (v := .bool (!dq)) (a' := ?_) #[true, true, true, true, true, true, true, true, true, true, true, true, true, true, false, false, false, false, false, false, false, false, false, false, false, false, false, false] rfl rfl (by kernel_rfl) (fun _ _ _ h => h) (Or.inl ⟨by rfl, fun w' => yield_neq _ _ _ _ rfl _ _ rfl rfl gt_S (HDQ.out w')⟩) ?_ ?_
              rotate_left
              · simp only [Act.put, List.setIfInBounds_toArray, List.set_cons_zero, List.set_cons_succ, i64_w, i32_w]
                rfl
              cases dq with
              | true =>
                refine pure_ (i := 14) (N := some 74) (v := ?_) (a' := ?_) #[true, true, true, true, true, true, true, true, true, true, true, true, true, true, true, false, false, false, false, false, false, false, false, false, false, false, false, false] rfl rfl (by kernel_rfl) (fun _ _ _ h => h) (Or.inl ⟨by rfl, ?_⟩) ?_ ?_
                rotate_left
                · intro w'
                  go_simp
                  with_reducible rfl
                rotate_left
                · simp only [Act.put, List.setIfInBounds_toArray, List.set_cons_zero, List.set_cons_succ, i64_w, i32_w]
                  rfl
                refine pure_ (i := 15) (N := some 75) (v := ?_) (a' := ?_) #[true, true, true, true, true, true, true, true, true, true, true, true, true, true, true, true, false, false, false, false, false, false, false, false, false, false, false, false] rfl rfl (by kernel_rfl) (fun _ _ _ h => h) (Or.inl ⟨by rfl, ?_⟩) ?_ ?_
                rotate_left
                · intro w'
                  go_simp
                  with_reducible rfl
                rotate_left
                · simp only [Act.put, List.setIfInBounds_toArray, List.set_cons_zero, List.set_cons_succ, i64_w, i32_w]
                  rfl
                refine pure_ (i := 16) (N := some 76) (v := ?_) (a' := ?_) #[true, true, true, true, true, true, true, true, true, true, true, true, true, true, true, true, true, false, false, false, false, false, false, false, false, false, false, false] rfl rfl (by kernel_rfl) (fun _ _ _ h => h) (Or.inl ⟨by rfl, ?_⟩) ?_ ?_
                rotate_left
                · intro w'
                  go_simp
                  with_reducible rfl
                rotate_left
                · simp only [Act.put, List.setIfInBounds_toArray, List.set_cons_zero, List.set_cons_succ, i64_w, i32_w]
                  rfl
                refine pure_ (i := 17) (N := some 77) (v := undef) (a' := ?_) #[true, true, true, true, true, true, true, true, true, true, true, true, true, true, true, true, true, true, false, false, false, false, false, false, false, false, false, false] rfl rfl (by kernel_rfl) (fun _ _ _ h => h) (Or.inr ⟨by rfl, rfl⟩) ?_ ?_
                rotate_left
                · simp only [Act.put, List.setIfInBounds_toArray, List.set_cons_zero, List.set_cons_succ, i64_w, i32_w]
                  rfl
                refine pure_ (i := 18) (N := some 78) (v := undef) (a' := ?_) #[true, true, true, true, true, true, true, true, true, true, true, true, true, true, true, true, true, true, true, false, false, false, false, false, false, false, false, false] rfl rfl (by kernel_rfl) (fun _ _ _ h => h) (Or.inr ⟨by rfl, rfl⟩) ?_ ?_
                rotate_left
                · simp only [Act.put, List.setIfInBounds_toArray, List.set_cons_zero, List.set_cons_succ, i64_w, i32_w]
                  rfl
                refine pure_ (i := 20) (N := some 80) (v := undef) (a' := ?_) #[true, true, true, true, true, true, true, true, true, true, true, true, true, true, true, true, true, true, true, false, true, false, false, false, false, false, false, false] rfl rfl (by kernel_rfl) (fun _ _ _ h => h) (Or.inr ⟨by rfl, rfl⟩) ?_ ?_
                rotate_left
                · simp only [Act.put, List.setIfInBounds_toArray, List.set_cons_zero, List.set_cons_succ, i64_w, i32_w]
                  rfl
                refine pure_ (i := 21) (N := some 81) (v := undef) (a' := ?_) #[true, true, true, true, true, true, true, true, true, true, true, true, true, true, true, true, true, true, true, false, true, true, false, false, false, false, false, false] rfl rfl (by kernel_rfl) (fun _ _ _ h => h) (Or.inr ⟨by rfl, rfl⟩) ?_ ?_
                rotate_left
                · simp only [Act.put, List.setIfInBounds_toArray, List.set_cons_zero, List.set_cons_succ, i64_w, i32_w]
                  rfl
                refine pure_ (i := 22) (N := some 82) (v := undef) (a' := ?_) #[true, true, true, true, true, true, true, true, true, true, true, true, true, true, true, true, true, true, true, false, true, true, true, false, false, false, false, false] rfl rfl (by kernel_rfl) (fun _ _ _ h => h) (Or.inr ⟨by rfl, rfl⟩) ?_ ?_
                rotate_left
                · simp only [Act.put, List.setIfInBounds_toArray, List.set_cons_zero, List.set_cons_succ, i64_w, i32_w]
                  rfl
                refine pure_ (i := 23) (N := some 83) (v := undef) (a' := ?_) #[true, true, true, true, true, true, true, true, true, true, true, true, true, true, true, true, true, true, true, false, true, true, true, true, false, false, false, false] rfl rfl (by kernel_rfl) (fun _ _ _ h => h) (Or.inr ⟨by rfl, rfl⟩) ?_ ?_
                rotate_left
                · simp only [Act.put, List.setIfInBounds_toArray, List.set_cons_zero, List.set_cons_succ, i64_w, i32_w]
                  rfl
                refine one_ (i := 19) (N := some 79) #[true, true, true, true, true, true, true, true, true, true, true, true, true, true, true, true, true, true, true, true, true, true, true, true, false, false, false, false] rfl rfl (by kernel_rfl) (by decide) (fun K hK => ?_)
                refine off_ (by rfl) ?_
                refine hK.out _ _ hHeld (fun hHeld => ?_)
                clear hK K
                refine norm_ (a' := ?_) ?_ ?_
                rotate_left
                · show Act.put _ (some 79) _ = _
                  simp only [Act.put, List.setIfInBounds_toArray, List.set_cons_zero, List.set_cons_succ, i64_w, i32_w]
                  rfl
                refine one_ (i := 24) (N := some 84) #[true, true, true, true, true, true, true, true, true, true, true, true, true, true, true, true, true, true, true, true, true, true, true, true, true, false, false, false] rfl rfl (by kernel_rfl) (by decide) (fun K hK => ?_)
                refine off_ (by rfl) ?_
                refine hK.out _ _ hHeld (fun hHeld => ?_)
                clear hK K
                refine norm_ (a' := ?_) ?_ ?_
                rotate_left
                · show Act.put _ (some 84) _ = _
                  simp only [Act.put, List.setIfInBounds_toArray, List.set_cons_zero, List.set_cons_succ, i64_w, i32_w]
                  rfl
                refine one_ (i := 25) (N := some 85) #[true, true, true, true, true, true, true, true, true, true, true, true, true, true, true, true, true, true, true, true, true, true, true, true, true, true, false, false] rfl rfl (by kernel_rfl) (by decide) (fun K hK => ?_)
                refine off_ (by rfl) ?_
                refine hK.out _ _ hHeld (fun hHeld => ?_)
                clear hK K
                refine norm_ (a' := ?_) ?_ ?_
                rotate_left
                · show Act.put _ (some 85) _ = _
                  simp only [Act.put, List.setIfInBounds_toArray, List.set_cons_zero, List.set_cons_succ, i64_w, i32_w]
                  rfl
                refine pure_ (i := 26) (N := some 86) (v := undef) (a' := ?_) #[true, true, true, true, true, true, true, true, true, true, true, true, true, true, true, true, true, true, true, true, true, true, true, true, true, true, true, false] rfl rfl (by kernel_rfl) (fun _ _ _ h => h) (Or.inr ⟨by rfl, rfl⟩) ?_ ?_
                rotate_left
                · simp only [Act.put, List.setIfInBounds_toArray, List.set_cons_zero, List.set_cons_succ, i64_w, i32_w]
                  rfl
                refine pure_ (i := 27) (N := some 87) (v := ?_) (a' := ?_) #[true, true, true, true, true, true, true, true, true, true, true, true, true, true, true, true, true, true, true, true, true, true, true, true, true, true, true, true] rfl rfl (by kernel_rfl) (fun _ _ _ h => h) (Or.inl ⟨by rfl, ?_⟩) ?_ ?_
                rotate_left
                · intro w'
                  go_simp
                  with_reducible rfl
                rotate_left
                · simp only [Act.put, List.setIfInBounds_toArray, List.set_cons_zero, List.set_cons_succ, i64_w, i32_w]
                  rfl
                refine done_ (by kernel_rfl) ?_
                have HQ := Aside0.mk (HZ.out.1.next hHeld)
                clear hHeld
                as_aux_lemma =>
                  go_wp2
                  exact ⟨⟨n + 1, by simp, by omega, HQ⟩, by simp [intOf]; omega⟩
              | false =>
                have HNE := Aside0.mk (show (⟨ys, yi, true⟩ : Ck).i ≠ (⟨xs, xi, xo⟩ : Ck).i ∨ (⟨ys, yi, true⟩ : Ck).s ≠ (⟨xs, xi, xo⟩ : Ck).s from Or.inr (fun e => absurd HDX.out (by rw [decide_eq_true (show ys = xs from e)]; simp)))
                refine pure_ (i := 14) (N := some 74) (v := ?_) (a' := ?_) #[true, true, true, true, true, true, true, true, true, true, true, true, true, true, true, false, false, false, false, false, false, false, false, false, false, false, false, false] rfl rfl (by kernel_rfl) (fun _ _ _ h => h) (Or.inl ⟨by rfl, ?_⟩) ?_ ?_
                rotate_left
                · intro w'
                  go_simp
                  with_reducible rfl
                rotate_left
                · simp only [Act.put, List.setIfInBounds_toArray, List.set_cons_zero, List.set_cons_succ, i64_w, i32_w]
                  rfl
                refine pure_ (i := 15) (N := some 75) (v := ?_) (a' := ?_) #[true, true, true, true, true, true, true, true, true, true, true, true, true, true, true, true, false, false, false, false, false, false, false, false, false, false, false, false] rfl rfl (by kernel_rfl) (fun _ _ _ h => h) (Or.inl ⟨by rfl, ?_⟩) ?_ ?_
                rotate_left
                · intro w'
                  go_simp
                  with_reducible rfl
                rotate_left
                · simp only [Act.put, List.setIfInBounds_toArray, List.set_cons_zero, List.set_cons_succ, i64_w, i32_w]
                  rfl
                refine pure_ (i := 16) (N := some 76) (v := ?_) (a' := ?_) #[true, true, true, true, true, true, true, true, true, true, true, true, true, true, true, true, true, false, false, false, false, false, false, false, false, false, false, false] rfl rfl (by kernel_rfl) (fun _ _ _ h => h) (Or.inl ⟨by rfl, ?_⟩) ?_ ?_
                rotate_left
                · intro w'
                  go_simp
                  with_reducible rfl
                rotate_left
                · simp only [Act.put, List.setIfInBounds_toArray, List.set_cons_zero, List.set_cons_succ, i64_w, i32_w]
                  rfl
                refine take_ (i := 18) (N := some 78) (v := .agg (cV px)) (a' := ?_) #[true, true, true, true, true, true, true, true, true, true, true, true, true, true, true, true, true, false, true, false, false, false, false, false, false, false, false, false] rfl rfl (by kernel_rfl) (fun _ _ _ h => h) (Or.inl ⟨by rfl, fun w' hS => yield_load _ _ rfl _ rfl (ld_V1 (HZ.out.1.next hS).bp)⟩) hHeld ?_ ?_
                rotate_left
                · simp only [Act.put, List.setIfInBounds_toArray, List.set_cons_zero, List.set_cons_succ, i64_w, i32_w]
                  rfl
                refine pure_ (i := 17) (N := some 77) (v := ?_) (a' := ?_) #[true, true, true, true, true, true, true, true, true, true, true, true, true, true, true, true, true, true, true, false, false, false, false, false, false, false, false, false] rfl rfl (by kernel_rfl) (fun _ _ _ h => h) (Or.inl ⟨by rfl, ?_⟩) ?_ ?_
                rotate_left
                · intro w'
                  go_simp
                  with_reducible rfl
                rotate_left
                · simp only [Act.put, List.setIfInBounds_toArray, List.set_cons_zero, List.set_cons_succ, i64_w, i32_w]
                  rfl
                refine pure_ (i := 20) (N := some 80) (v := ?_) (a' := ?_) #[true, true, true, true, true, true, true, true, true, true, true, true, true, true, true, true, true, true, true, false, true, false, false, false, false, false, false, false] rfl rfl (by kernel_rfl) (fun _ _ _ h => h) (Or.inl ⟨by rfl, ?_⟩) ?_ ?_
                rotate_left
                · intro w'
                  go_simp
                  with_reducible rfl
                rotate_left
                · simp only [Act.put, List.setIfInBounds_toArray, List.set_cons_zero, List.set_cons_succ, i64_w, i32_w]
                  rfl
                refine pure_ (i := 21) (N := some 81) (v := ?_) (a' := ?_) #[true, true, true, true, true, true, true, true, true, true, true, true, true, true, true, true, true, true, true, false, true, true, false, false, false, false, false, false] rfl rfl (by kernel_rfl) (fun _ _ _ h => h) (Or.inl ⟨by rfl, ?_⟩) ?_ ?_
                rotate_left
                · intro w'
                  go_simp
                  with_reducible rfl
                rotate_left
                · simp only [Act.put, List.setIfInBounds_toArray, List.set_cons_zero, List.set_cons_succ, i64_w, i32_w]
                  rfl
                refine pure_ (i := 22) (N := some 82) (v := ?_) (a' := ?_) #[true, true, true, true, true, true, true, true, true, true, true, true, true, true, true, true, true, true, true, false, true, true, true, false, false, false, false, false] rfl rfl (by kernel_rfl) (fun _ _ _ h => h) (Or.inl ⟨by rfl, ?_⟩) ?_ ?_
                rotate_left
                · intro w'
                  go_simp
                  with_reducible rfl
                rotate_left
                · simp only [Act.put, List.setIfInBounds_toArray, List.set_cons_zero, List.set_cons_succ, i64_w, i32_w]
                  rfl
                refine take_ (i := 23) (N := some 83) (v := .agg (cV xn)) (a' := ?_) #[true, true, true, true, true, true, true, true, true, true, true, true, true, true, true, true, true, true, true, false, true, true, true, true, false, false, false, false] rfl rfl (by kernel_rfl) (fun _ _ _ h => h) (Or.inl ⟨by rfl, fun w' hS => yield_load _ _ rfl _ rfl (HXN.out w' (HZ.out.1.next hS).bv)⟩) hHeld ?_ ?_
                rotate_left
                · simp only [Act.put, List.setIfInBounds_toArray, List.set_cons_zero, List.set_cons_succ, i64_w, i32_w]
                  rfl
                have HMT := Aside0.mk (show metB h1 h2 = true by rw [← HFX.out.2.2.1, ← HFX.out.2.2.2]; exact binds_met r k px.q.p xn.q.p px.q.e xn.q.e px.q.l xn.q.l (by rw [HCK.out.1]; exact HCK.out.2) (by rw [HY.out.1]) (by rw [HY.out.1, HCK.out.1]; exact HNE.out))
                refine one_ (i := 19) (N := some 79) #[true, true, true, true, true, true, true, true, true, true, true, true, true, true, true, true, true, true, true, true, true, true, true, true, false, false, false, false] rfl rfl (by kernel_rfl) (by decide) (fun K hK => ?_)
                refine goes_ Tryd.func19 (by kernel_rfl) rfl #[.string k, .agg (cV px)] (by rfl) rfl rfl (by simp only [List.map_toArray, List.map_cons, List.map_nil]; rfl) ?_
                refine (chainV_calls px k HFX.out.1 _ (HZ.out.1.next hHeld).gp.C HFX.out.2.1 (HZ.out.1.next hHeld).gp.key h1 HFX.out.2.2.1).mono ?_
                rintro e u1 ⟨A1, c1, rfl, hr1, hb1⟩
                refine ⟨_, rfl, ?_⟩
                have H7 := Aside0.mk hr1
                clear hr1
                refine hK.out _ _ (below_tr hHeld hb1 hHeld.size) (fun hHeld => ?_)
                clear hK K
                refine norm_ (a' := ?_) ?_ ?_
                rotate_left
                · show Act.put _ (some 79) _ = _
                  simp only [Act.put, List.setIfInBounds_toArray, List.set_cons_zero, List.set_cons_succ, i64_w, i32_w]
                  rfl
                refine one_ (i := 24) (N := some 84) #[true, true, true, true, true, true, true, true, true, true, true, true, true, true, true, true, true, true, true, true, true, true, true, true, true, false, false, false] rfl rfl (by kernel_rfl) (by decide) (fun K hK => ?_)
                refine goes_ Tryd.func19 (by kernel_rfl) rfl #[.string k, .agg (cV xn)] (by rfl) rfl rfl (by simp only [List.map_toArray, List.map_cons, List.map_nil]; rfl) ?_
                refine (chainV_calls xn k HFX.out.1 _ (HG.out.below hHeld).C (ck_len (root := r) (k := k) (e := xn.q.e) (l := xn.q.l) (by rw [HY.out.1])) HG.out.key h2 HFX.out.2.2.2).mono ?_
                rintro e u2 ⟨A2, c2, rfl, hr2, hb2⟩
                refine ⟨_, rfl, ?_⟩
                have H7 := Aside0.mk (And.intro (H7.out.below hb2) hr2)
                clear hr2
                refine hK.out _ _ (below_tr hHeld hb2 hHeld.size) (fun hHeld => ?_)
                clear hK K
                refine norm_ (a' := ?_) ?_ ?_
                rotate_left
                · show Act.put _ (some 84) _ = _
                  simp only [Act.put, List.setIfInBounds_toArray, List.set_cons_zero, List.set_cons_succ, i64_w, i32_w]
                  rfl
                refine one_ (i := 25) (N := some 85) #[true, true, true, true, true, true, true, true, true, true, true, true, true, true, true, true, true, true, true, true, true, true, true, true, true, true, false, false] rfl rfl (by kernel_rfl) (by decide) (fun K hK => ?_)
                refine goes_ Tryd.func18 (by kernel_rfl) rfl #[.slice A1 h1.length c1, .slice A2 h2.length c2] (by rfl) rfl rfl (by simp only [List.map_toArray, List.map_cons, List.map_nil]; rfl) ?_
                refine (Met_calls h1 h2 A1 A2 c1 c2 _ H7.out.1 H7.out.2 (by rw [← HFX.out.2.2.1]; exact chain_ok _ _ _ _ HFX.out.2.1) (by rw [← HFX.out.2.2.2]; exact chain_ok _ _ _ _ (ck_len (root := r) (k := k) (e := xn.q.e) (l := xn.q.l) (by rw [HY.out.1])))).mono ?_
                rw [HMT.out]
                rintro e w8 ⟨rfl, hb8⟩
                refine ⟨_, rfl, ?_⟩
                refine hK.out _ _ (below_tr hHeld hb8 hHeld.size) (fun hHeld => ?_)
                clear hK K
                refine norm_ (a' := ?_) ?_ ?_
                rotate_left
                · show Act.put _ (some 85) _ = _
                  simp only [Act.put, List.setIfInBounds_toArray, List.set_cons_zero, List.set_cons_succ, i64_w, i32_w]
                  rfl
                refine pure_ (i := 26) (N := some 86) (v := ?_) (a' := ?_) #[true, true, true, true, true, true, true, true, true, true, true, true, true, true, true, true, true, true, true, true, true, true, true, true, true, true, true, false] rfl rfl (by kernel_rfl) (fun _ _ _ h => h) (Or.inl ⟨by rfl, ?_⟩) ?_ ?_
                rotate_left
                · intro w'
                  go_simp
                  with_reducible rfl
                rotate_left
                · simp only [Act.put, List.setIfInBounds_toArray, List.set_cons_zero, List.set_cons_succ, i64_w, i32_w]
                  rfl
                refine pure_ (i := 27) (N := some 87) (v := ?_) (a' := ?_) #[true, true, true, true, true, true, true, true, true, true, true, true, true, true, true, true, true, true, true, true, true, true, true, true, true, true, true, true] rfl rfl (by kernel_rfl) (fun _ _ _ h => h) (Or.inl ⟨by rfl, ?_⟩) ?_ ?_
                rotate_left
                · intro w'
                  go_simp
                  with_reducible rfl
                rotate_left
                · simp only [Act.put, List.setIfInBounds_toArray, List.set_cons_zero, List.set_cons_succ, i64_w, i32_w]
                  rfl
                refine done_ (by kernel_rfl) ?_
                have HQ := Aside0.mk (HZ.out.1.next hHeld)
                clear hHeld
                as_aux_lemma =>
                  go_wp2
                  exact ⟨⟨n + 1, by simp, by omega, HQ⟩, by simp [intOf]; omega⟩
      · obtain rfl : n = 3 := by omega
        have hx := cell_K2 HS.out.bk
        rw [HCK.out.2] at hx
        have HQ := Aside0.mk HS.out.below
        clear HS
        go_wp2
        go_ret
        exact ⟨rfl, HQ.out⟩
end Go.Proofs.YtanabbjakacgbaaDoor.Sp

