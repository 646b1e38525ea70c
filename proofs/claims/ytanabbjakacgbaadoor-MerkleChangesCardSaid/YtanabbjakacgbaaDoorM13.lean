/- Put together by this session's program out of: If Ig Gt Gv Gw Tb Ih. -/
import Derived.WalkSpells
import Derived.Test.YtanabbjakacgbaaDoorM12
namespace Go.Proofs.YtanabbjakacgbaaDoor.Sp
open Go.RowKit Go.Proofs.YtanabbjakacgbaaDoorW.PrintWords Go.Proofs.YtanabbjakacgbaaDoorW.PrintLast Go.Proofs.YtanabbjakacgbaaDoorW.PrintMore Go.Proofs.YtanabbjakacgbaaDoor.PM
set_option linter.unusedVariables false
set_option linter.unusedSimpArgs false
set_option maxRecDepth 100000
theorem C_none {w : World} {l : List Lf} (hr : kL.C w none l.length l) : l = [] := by
  rcases Nat.eq_zero_or_pos l.length with h | h
  · exact List.eq_nil_of_length_eq_zero h
  · obtain ⟨_, e, _⟩ := hr.2.2 h; cases e
set_option maxHeartbeats 4000000 in
theorem clone_calls (l : List Lf) (A : Option Addr) (c : Nat) (w : World) (hr : kL.C w A l.length l) (hl : l.length ≤ 100000) :
    Calls Tryd.prog 57 #[.slice A l.length c] w fun e w' => ∃ v, e = .returned v ∧ kL.R 33 w' w.heap.size (fun _ => True) v l ∧ Below w.heap.size w w' := by
  have HS := Aside0.mk hr
  cases A with
  | none =>
    obtain rfl := C_none hr
    clear hr
    go_enter Tryd.func57, Tryd.ntmps57
    have hnil : ∀ W, (binOp .eql 24 (.slice none 0 c) (.slice none 0 0)).run Tryd.prog W = .ok (.bool true) W := fun W => run_eql_nil_slice W 24 33 none 0 c 0 0 Tryd.underlying24
    go_wp2_with (rw [hnil])
    go_ret
    exact ⟨_, rfl, Kd.R_nil _ _ _ _ _, Below.refl _ _⟩
  | some ad =>
    clear hr
    have hnil : ∀ W, (binOp .eql 24 (.slice (some ad) l.length c) (.slice none 0 0)).run Tryd.prog W = .ok (.bool false) W := fun W => run_eql_nil_slice W 24 33 (some ad) l.length c 0 0 Tryd.underlying24
    go_enter Tryd.func57, Tryd.ntmps57
    go_wp2_with (first
      | (rw [hnil])
      | ((with_reducible refine gate_dst (N := 5) rfl ?_); (refine bs0_L (wa := w) rfl rfl rfl w.heap.size (Below.refl _ _) (Nat.le_refl _) ?_); intro v0 w1 hv0 hb0 hs0; have H0 := Aside0.mk (⟨hv0, hb0, hs0⟩ : _ ∧ _ ∧ _); clear hv0 hb0 hs0)
      | ((with_reducible refine gate_dst (N := 7) rfl ?_); (refine app_Lall (wa := w) rfl (.tmp 5) (.tmp 6) rfl v0 [] l (some ad) c rfl rfl w.heap.size H0.out.1 (Kd.C_below HS.out H0.out.2.1) H0.out.2.1 H0.out.2.2 (by simp; omega) ?_); intro v1 w2 hv1 hb1 hg1; have H1 := Aside0.mk (And.intro hv1 hb1); clear hv1 hb1 hg1))
    go_ret
    exact ⟨v1, rfl, H1.out.1, H1.out.2⟩
theorem srt_mono {l : List Lf} (hs : Srt l) (k : ByteArray) : ∀ t u, t ≤ u → u < l.length → (blt (l.getD u zL).k k = true → blt (l.getD t zL).k k = true) ∧ (blt (l.getD t zL).k k = false → blt (l.getD u zL).k k = false) := fun t u htu hu => by
  rcases Nat.lt_or_ge t u with h | h
  · have h1 := srt_lt hs h hu
    refine ⟨fun h2 => blt_trans h1 h2, fun h2 => ?_⟩
    by_cases h3 : blt (l.getD u zL).k k = true
    · rw [blt_trans h1 h3] at h2; cases h2
    · simpa using h3
  · obtain rfl : t = u := by omega
    exact ⟨id, id⟩
set_option maxHeartbeats 4000000 in
theorem putm_calls (l : List Lf) (x : Lf) (A : Option Addr) (c : Nat) (w : World) (hr : kL.C w A l.length l) (hl : l.length ≤ 10000) (hs : Srt l) :
    Calls Tryd.prog 31 #[.slice A l.length c, .agg (cL x)] w fun e w' => ∃ v, e = .returned v ∧ kL.R 33 w' w.heap.size (fun _ => True) v (putOf l x) ∧ Below w.heap.size w w' := by
  obtain ⟨g, hg⟩ : ∃ g, g = w.heap.size := ⟨_, rfl⟩
  obtain ⟨wb, hwb⟩ : ∃ wb, w.alloc (.cells (cL x) 33) = wb := ⟨_, rfl⟩
  have hb : Below w.heap.size w wb := by rw [← hwb]; exact below_alloc (Below.refl _ _) _
  have h0 : wb.heap[g]? = some (.cells (cL x) 33 (0, 0)) := by rw [← hwb]; exact h_new hg
  have HB := Aside0.mk (⟨hb, h0, Kd.C_below hr hb⟩ : _ ∧ _ ∧ _)
  have HWB := Aside0.mk hwb
  have HG := Aside0.mk hg
  have HSO := Aside0.mk hs
  clear hb h0 hwb hr hs hg
  go_enter Tryd.func31, Tryd.ntmps31
  go_wp2_with (first
    | (go_at_call 57; rw [HWB.out, ← HG.out]; (with_reducible refine (clone_calls l A c wb HB.out.2.2 (by omega)).mono ?_); rintro e w1 ⟨v1, rfl, hv1, hb1⟩; obtain ⟨A1, c1, rfl, hc1, hr1⟩ := Kd.R_reads hv1; have H1 := Aside0.mk (⟨Kd.R_lower hv1 HB.out.1.size, hr1, below_tr HB.out.1 hb1 HB.out.1.size, at_next HB.out.2.1 hb1⟩ : _ ∧ _ ∧ _ ∧ _); have hx1 := cell_L0 H1.out.2.2.2; clear hv1 hb1 hr1)
    | (go_at_call 58; (with_reducible refine (find_calls l x.k A1 c1 w1 H1.out.2.1 (by omega) (srt_mono HSO.out x.k)).mono ?_); rintro e w2 ⟨i, q, hp, hq, rfl, hb2⟩; have H2 := Aside0.mk (⟨hp, hq, Kd.R_below H1.out.1 hb2, below_tr H1.out.2.2.1 hb2 H1.out.2.2.1.size, at_next H1.out.2.2.2 hb2⟩ : _ ∧ _ ∧ _ ∧ _ ∧ _); clear hp hq hb2 hx1; refine pause_ ?_))
  have hxl := ld_L H2.out.2.2.2.2 0
  have hil := H2.out.1.le
  have hbs : w.heap.size ≤ w2.heap.size := H2.out.2.2.2.1.size
  cases q with
  | true =>
    obtain ⟨he1, he2⟩ := of_decide_eq_true H2.out.2.1
    have hput : putOf l x = l.set i x := H2.out.1.put_old HSO.out ⟨he1, he2⟩
    obtain ⟨g1, e1⟩ : ∃ g1, A1 = some ⟨g1, 0, none⟩ := by
      rcases R_cells H2.out.2.2.1 with ⟨h, h2⟩ | ⟨g1, cap, cur, h, _⟩
      · rw [h2] at he1; exact absurd he1 (Nat.not_lt_zero _)
      · injection h with h; exact ⟨g1, h⟩
    subst e1
    have c5 : ((i : Int) < (l.length : Int)) = True := eq_true (by omega)
    have HP := Aside0.mk hput
    clear hput he2
    obtain ⟨ad, eA, hat⟩ := at_flat (R_C H2.out.2.2.1).2.2 zL (i : Int) (by omega) (by omega)
    obtain rfl := Option.some.inj eA
    rw [Int.toNat_natCast] at hat
    have hcc : ∀ j u, (cL (l.getD i zL)).toList[j]? = some u → w2.cell? ⟨g1, (i : Int).toNat * kL.sz + j, none⟩ = some u := fun j u hj => by
      have := hat j u hj
      rwa [add_at, add_at, Nat.zero_add] at this
    refine unpause_ ?_
    go_wp2_with (first
      | ((with_reducible refine gate_dst (N := 19) rfl ?_); (refine wpList_loadv rfl 33 _ rfl _ rfl _ hxl ?_))
      | ((with_reducible refine gate_store (t := 33) rfl ?_); (refine Kd.R_store kL (w0 := w) w.heap.size rfl rfl 33 (.tmp 20) (.tmp 19) rfl 33 (g := g1) (n := l.length) (cap := c1) (o' := i * 33) (i : Int) 0 l x (.agg (cL x)) (cL x).toList (cL (l.getD i zL)).toList (fun _ => True) (fun _ => False) rfl (by rw [Int.toNat_natCast]; rfl) rfl rfl (by rw [Array.length_toList, cL_size]; kernel_rfl) (cL_one x) H2.out.2.2.1 (by omega) (by omega) (by rw [Array.length_toList, cL_size]; rfl) hcc (by rw [Array.length_toList, cL_size]; decide) ?hM (fun _ h => h.elim) H2.out.2.2.2.1 ?_); (case hM => (show _ = _); rw [List.take_zero, List.nil_append, List.drop_eq_nil_of_le (by rw [Array.length_toList, Array.length_toList, cL_size, cL_size]; decide), List.append_nil]); intro w3 hr3 hb3 hg3; have H3 := Aside0.mk (And.intro hr3 hb3); clear hr3 hb3 hg3))
    go_ret
    have h3 := H3.out.1
    rw [Int.toNat_natCast] at h3
    exact ⟨_, rfl, by rw [HP.out]; exact h3, H3.out.2⟩
  | false =>
    have hput : putOf l x = l.take i ++ x :: l.drop i := H2.out.1.put_new HSO.out (of_decide_eq_false H2.out.2.1)
    have HP := Aside0.mk hput
    obtain ⟨w3, hw3⟩ : ∃ w3, w2.alloc (.cells (cL x) 33) = w3 := ⟨_, rfl⟩
    obtain ⟨n, hn⟩ : ∃ n, n = w2.heap.size := ⟨_, rfl⟩
    have hb3 : Below w2.heap.size w2 w3 := by rw [← hw3]; exact below_alloc (Below.refl _ _) _
    have hx3 : w3.heap[n]? = some (.cells (cL x) 33 (0, 0)) := by rw [← hw3]; exact h_new hn
    have hne : (Value.slice A1 l.length c1).ownBlock ≠ some n := fun e => by have := Kd.R_lt H2.out.2.2.1 n e; omega
    have H3 := Aside0.mk (⟨Kd.R_below H2.out.2.2.1 hb3, hx3, hne, below_tr H2.out.2.2.2.1 hb3 H2.out.2.2.2.1.size, Nat.le_trans hbs hb3.size⟩ : _ ∧ _ ∧ _ ∧ _ ∧ _)
    have HN := Aside0.mk hn
    have HW3 := Aside0.mk hw3
    clear hput hb3 hx3 hne hn hw3
    refine unpause_ ?_
    go_wp2_with (first
      | ((with_reducible refine gate_dst (N := 24) rfl ?_); (refine wpList_loadv rfl 33 _ rfl _ rfl _ hxl ?_))
      | ((with_reducible refine gate_dst (N := 25) rfl ?_); (refine bs1_L rfl (.tmp 24) rfl x rfl ?_); rw [HW3.out, ← HN.out])
      | (go_at_call 59; (with_reducible refine (insert_calls l x i (.slice A1 l.length c1) n w.heap.size w w3 H3.out.1 H3.out.2.1 H3.out.2.2.1 hil (by omega) H3.out.2.2.2.1 H3.out.2.2.2.2).mono ?_); rintro e w4 ⟨v4, rfl, hr4, hb4⟩; have H4 := Aside0.mk (And.intro hr4 hb4); clear hr4 hb4))
    go_ret
    exact ⟨v4, rfl, by rw [HP.out]; exact H4.out.1, H4.out.2⟩
end Go.Proofs.YtanabbjakacgbaaDoor.Sp
namespace Go.Proofs.YtanabbjakacgbaaDoor.Sp
open Go.RowKit Go.Proofs.YtanabbjakacgbaaDoorW.PrintWords Go.Proofs.YtanabbjakacgbaaDoorW.PrintLast Go.Proofs.YtanabbjakacgbaaDoorW.PrintMore Go.Proofs.YtanabbjakacgbaaDoor.PM
set_option linter.unusedVariables false
set_option linter.unusedSimpArgs false
set_option maxRecDepth 100000
set_option maxHeartbeats 4000000 in
theorem grow_calls (n : Nat) (hn : n ≤ 100000) (w : World) :
    Calls Tryd.prog 83 #[.slice none 0 0, .int .i64 n] w fun e w' => ∃ v, e = .returned v ∧ kL.R 33 w' w.heap.size (fun _ => True) v [] ∧ Below w.heap.size w w' := by
  rcases Nat.eq_zero_or_pos n with h0 | h0
  · subst h0
    go_enter Tryd.func83, Tryd.ntmps83
    go_wp2
    go_ret
    exact ⟨_, rfl, Kd.R_nil _ _ _ _ _, Below.refl _ _⟩
  · obtain ⟨i0, hi0, hzz⟩ := Option.map_eq_some_iff.1 infoL
    simp only [Prod.mk.injEq] at hzz
    obtain ⟨hz0, hz1, hz2⟩ := hzz
    obtain ⟨G, hG⟩ : ∃ G, G = grownCap w n 0 33 := ⟨_, rfl⟩
    have hGge : n ≤ G := by rw [hG]; exact grownCap_ge _ _ _ _
    have hGle : G ≤ maxLen := by rw [hG]; exact grownCap_le_maxLen _ _ _ _ (by simp only [maxLen]; omega)
    obtain ⟨ROW, hROW⟩ : ∃ ROW : Array Value, ROW = Builtin.zeroCells (cL zL) n ++ Builtin.zeroCells (cL zL) (G - n) := ⟨_, rfl⟩
    have hRs : ROW.size = G * 33 := by
      rw [hROW]
      simp only [Array.size_append, Builtin.zeroCells, Array.size_map, Array.size_range, cL_size]
      rw [← Nat.add_mul]
      congr 1
      omega
    have hrz : (Builtin.append_ #[24, 3] 24 #[.slice none 0 0, .int .i64 (n : Int)]).run Tryd.prog w = .ok (.slice (some ⟨w.heap.size, 0, none⟩) n G) (w.drew.alloc (.cells ROW 33)) := by
      have h := Lib.run_append_nil_zeros w 24 3 24 33 i0 _ .i64 .i64 Tryd.underlying24 Tryd.underlying3 hi0 hz0 n h0 (by omega) (by omega) (by rw [hz2]; omega)
      rw [h, hROW, hG]
      rfl
    obtain ⟨W1, hW1⟩ : ∃ W1, W1 = w.drew.alloc (.cells ROW 33) := ⟨_, rfl⟩
    rw [← hW1] at hrz
    have h1 : W1.heap[w.heap.size]? = some (.cells ROW 33 (0, 0)) := by rw [hW1]; exact h_new rfl
    have hb : Below w.heap.size w W1 := by rw [hW1]; exact below_alloc (Below.refl _ _).drew _
    have hR : kL.R 33 W1 w.heap.size (fun _ => True) (.slice (some ⟨w.heap.size, 0, none⟩) 0 G) [] := R_of_cells (xs := []) (Nat.le_refl _) h1 (Nat.zero_le _) hGle hRs (by rw [List.length_nil, Nat.zero_mul, List.take_zero]; rfl)
    have HR := Aside0.mk (And.intro hR hb)
    clear hW1 hG hROW hi0 hz0 hz1 hz2 h1 hb hR hRs hGle
    have c5 : ((0 : Int) < (n : Int)) = True := eq_true (by omega)
    have c6 : (0 < n) = True := eq_true h0
    go_enter Tryd.func83, Tryd.ntmps83
    go_wp2_with (first
      | ((with_reducible refine gate_dst (N := 22) rfl ?_); (refine Lib.wpList_append_run _ rfl _ _ _ _ rfl _ _ rfl rfl _ _ hrz ?_)))
    go_ret
    exact ⟨_, rfl, HR.out.1, HR.out.2⟩
structure TwoIn (w : World) (N : Nat) (A1 A2 : Option Addr) (c1 c2 : Nat) (l1 l2 : List Lf) : Prop where
  b : w.heap[N]? = some (.cells #[.slice A1 l1.length c1, .slice A2 l2.length c2] 24 (0, 0))
  r1 : kL.C w A1 l1.length l1
  r2 : kL.C w A2 l2.length l2
theorem TwoIn.below {w w' : World} {N : Nat} {A1 A2 : Option Addr} {c1 c2 : Nat} {l1 l2 : List Lf} (h : TwoIn w N A1 A2 c1 c2 l1 l2) (hb : Below w.heap.size w w') : TwoIn w' N A1 A2 c1 c2 l1 l2 := ⟨at_next h.b hb, Kd.C_below h.r1 hb, Kd.C_below h.r2 hb⟩
theorem TwoIn.c0 {w : World} {N : Nat} {A1 A2 : Option Addr} {c1 c2 : Nat} {l1 l2 : List Lf} (h : TwoIn w N A1 A2 c1 c2 l1 l2) : w.cell? ⟨N, 0, none⟩ = some (.slice A1 l1.length c1) := (cell_of_row w N 0 _ 24 _ h.b).trans rfl
theorem TwoIn.c1 {w : World} {N : Nat} {A1 A2 : Option Addr} {c1 c2 : Nat} {l1 l2 : List Lf} (h : TwoIn w N A1 A2 c1 c2 l1 l2) : w.cell? ⟨N, 1, none⟩ = some (.slice A2 l2.length c2) := (cell_of_row w N 1 _ 24 _ h.b).trans rfl
def sum2 (l1 l2 : List Lf) (j : Nat) : Nat := if j = 0 then 0 else if j = 1 then l1.length else l1.length + l2.length
def cat2 (l1 l2 : List Lf) (j : Nat) : List Lf := if j = 0 then [] else if j = 1 then l1 else l1 ++ l2
set_option maxHeartbeats 4000000 in
theorem concat_calls (l1 l2 : List Lf) (A1 A2 : Option Addr) (c1 c2 N : Nat) (w : World) (h : TwoIn w N A1 A2 c1 c2 l1 l2) (hl1 : l1.length ≤ 10000) (hl2 : l2.length ≤ 10000) :
    Calls Tryd.prog 60 #[.slice (some ⟨N, 0, none⟩) 2 2] w fun e w' => ∃ v, e = .returned v ∧ kL.R 33 w' w.heap.size (fun _ => True) v (l1 ++ l2) ∧ Below w.heap.size w w' := by
  have HT := Aside0.mk h
  have hx0 := h.c0
  have hx1 := h.c1
  clear h
  go_enter Tryd.func60, Tryd.ntmps60
  go_wp2
  go_loopw [3, 5, 11] (fun z s i wr => ∃ j : Nat, i = .int .i64 (j : Int) ∧ j ≤ 2 ∧ z = .int .i64 (sum2 l1 l2 j : Int) ∧ w = wr) (fun _ _ i _ => 2 - (intOf i).toNat)
  case atStart => exact ⟨0, by simp, by omega, by simp [sum2], rfl⟩
  case round =>
    obtain ⟨j, rfl, hj, rfl, rfl⟩ := hrel
    rcases (show j = 0 ∨ j = 1 ∨ j = 2 by omega) with rfl | rfl | rfl
    · have e0 : sum2 l1 l2 0 = 0 := rfl
      go_wp2
      exact ⟨⟨1, by simp, by omega, by simp [sum2], by first | trivial | rfl⟩, by simp [intOf]⟩
    · have e1 : sum2 l1 l2 1 = l1.length := rfl
      rw [e1]
      go_wp2
      exact ⟨⟨2, by simp, by omega, by simp [sum2], by first | trivial | rfl⟩, by simp [intOf]⟩
    · have e2 : sum2 l1 l2 2 = l1.length + l2.length := rfl
      rw [e2]
      clear e2
      obtain ⟨n, hn⟩ : ∃ n, l1.length + l2.length = n := ⟨_, rfl⟩
      rw [hn]
      go_wp2_with (go_at_call 83; (with_reducible refine (grow_calls n (by omega) w).mono ?_); rintro e w1 ⟨v1, rfl, hv1, hb1⟩; have H1 := Aside0.mk (And.intro hv1 hb1); clear hv1 hb1)
      go_loopw [6, 8, 27] (fun v s i W => ∃ (j : Nat) (v' : Value), v' = v ∧ i = .int .i64 (j : Int) ∧ j ≤ 2 ∧ Aside0 (kL.R 33 W w.heap.size (fun _ => True) v' (cat2 l1 l2 j) ∧ Below w.heap.size w W)) (fun _ _ i _ => 2 - (intOf i).toNat)
      case atStart => exact ⟨0, _, rfl, by simp, by omega, H1⟩
      case round =>
        clear H1 hx0 hx1
        obtain ⟨j, v, rfl, rfl, hj, HR⟩ := hrel
        have HI := Aside0.mk (HT.out.below HR.out.2)
        have hx0 := HI.out.c0
        have hx1 := HI.out.c1
        have hsz := HR.out.2.size
        rcases (show j = 0 ∨ j = 1 ∨ j = 2 by omega) with rfl | rfl | rfl
        · go_wp2_with (first
            | ((with_reducible refine gate_dst (N := 33) rfl ?_); (refine app_Lall (wa := w) rfl (.tmp 31) (.tmp 32) rfl v [] l1 A1 c1 rfl rfl w.heap.size HR.out.1 HI.out.r1 HR.out.2 hsz (by simp; omega) ?_); intro v1 w2 hv1 hb1 hg1; have H1 := Aside0.mk (And.intro hv1 hb1); clear hv1 hb1 hg1 hx0 hx1 hsz))
          exact ⟨⟨1, v1, rfl, by simp, by omega, H1⟩, by simp [intOf]⟩
        · go_wp2_with (first
            | ((with_reducible refine gate_dst (N := 33) rfl ?_); (refine app_Lall (wa := w) rfl (.tmp 31) (.tmp 32) rfl v l1 l2 A2 c2 rfl rfl w.heap.size HR.out.1 HI.out.r2 HR.out.2 hsz (by omega) ?_); intro v1 w2 hv1 hb1 hg1; have H1 := Aside0.mk (And.intro hv1 hb1); clear hv1 hb1 hg1 hx0 hx1 hsz))
          exact ⟨⟨2, v1, rfl, by simp, by omega, H1⟩, by simp [intOf]⟩
        · clear hx0 hx1 hsz
          go_wp2
          go_ret
          exact ⟨v, rfl, HR.out.1, HR.out.2⟩
theorem infoLL : (Tryd.prog.info? 24).map (fun i => (i.zero, i.size, i.bytes)) = some (some (.slice none 0 0), 1, 24) := by kernel_rfl
theorem bs2_LL {ops : Array Oper} {rest : List Oper} {o : Oper} {a : Act} {Q : Exit → Act → World → Prop} {w : World} (hg : o.guard = none) (x y : Operand) (ho : o.op = .buildSlice 132 2 #[(0, x), (1, y)]) (A1 : Option Addr) (n1 c1 : Nat) (A2 : Option Addr) (n2 c2 : Nat) (hx : a.eval x = .slice A1 n1 c1) (hy : a.eval y = .slice A2 n2 c2)
    (h : wpList Tryd.prog ops Q rest (a.put o.dst (.slice (some ⟨w.heap.size, 0, none⟩) 2 2)) (w.alloc (.cells #[.slice A1 n1 c1, .slice A2 n2 c2] 24))) : wpList Tryd.prog ops Q (o :: rest) a w := by
  obtain ⟨ie, hi, hzz⟩ := Option.map_eq_some_iff.1 infoLL
  simp only [Prod.mk.injEq] at hzz
  refine wpList_buildSlice hg 132 24 2 _ ho #[.slice A1 n1 c1, .slice A2 n2 c2] ie (.slice none 0 0) Tryd.underlying132 hi hzz.1 (by rw [hzz.2.1]; omega) (by rw [hzz.2.1]; omega) ?_ h
  have e : (Array.map (fun x : Nat × Operand => (x.1, a.eval x.2)) #[(0, x), (1, y)]).toList = [(0, .slice A1 n1 c1), (1, .slice A2 n2 c2)] := by simp [hx, hy]
  rw [e, hzz.2.1]
  exact fill_two 0 1 (.slice A1 n1 c1) (.slice A2 n2 c2) _ _ (by simp [Value.cells]) (by simp [Value.cells]) (by simp [Value.cells])
set_option maxHeartbeats 4000000 in
theorem dropm_calls (l : List Lf) (k : ByteArray) (A : Option Addr) (c : Nat) (w : World) (hr : kL.R 33 w 0 (fun _ => True) (.slice A l.length c) l) (hl : l.length ≤ 10000) (hs : Srt l) :
    Calls Tryd.prog 32 #[.slice A l.length c, .string k] w fun e w' => ∃ v, e = .returned v ∧ kL.R 33 w' 0 (fun _ => True) v (dropOf l k) ∧ Below w.heap.size w w' := by
  have HS := Aside0.mk (⟨hr, (R_C hr).2.2, hs⟩ : _ ∧ _ ∧ _)
  clear hr hs
  go_enter Tryd.func32, Tryd.ntmps32
  go_wp2_with (first
    | (go_at_call 58; (with_reducible refine (find_calls l k A c w HS.out.2.1 (by omega) (srt_mono HS.out.2.2 k)).mono ?_); rintro e w2 ⟨i, q, hp, hq, rfl, hb2⟩; have H2 := Aside0.mk (⟨hp, hq, Kd.R_below HS.out.1 hb2, hb2⟩ : _ ∧ _ ∧ _ ∧ _); clear hp hq hb2; refine pause_ ?_))
  cases q with
  | false =>
    have hdrop : dropOf l k = l := H2.out.1.drop_new HS.out.2.2 (of_decide_eq_false H2.out.2.1)
    refine unpause_ ?_
    go_wp2
    go_ret
    exact ⟨_, rfl, by rw [hdrop]; exact H2.out.2.2.1, H2.out.2.2.2⟩
  | true =>
    obtain ⟨he1, he2⟩ := of_decide_eq_true H2.out.2.1
    have hdrop : dropOf l k = l.take i ++ l.drop (i + 1) := H2.out.1.drop_old HS.out.2.2 ⟨he1, he2⟩
    have HD := Aside0.mk hdrop
    have hC2 : kL.C w2 A l.length l := (R_C H2.out.2.2.1).2.2
    have hcc : l.length ≤ c := (R_C H2.out.2.2.1).2.1
    obtain ⟨ad, eA, hat⟩ := at_flat hC2 zL (i : Int) (by omega) (by omega)
    subst eA
    have hT := Kd.C_take (m := i) hC2 (Nat.le_of_lt he1)
    obtain ⟨k', hk⟩ : ∃ k', i + 1 = k' := ⟨_, rfl⟩
    have hDr := Kd.C_drop (m := k') (c := c) hC2 (by omega) hcc
    obtain ⟨A2, hA2⟩ : ∃ A2, (if c = k' then some ad else some (ad.add (k' * 33))) = A2 := ⟨_, rfl⟩
    have hDr : kL.C w2 A2 (l.drop k').length (l.drop k') := by rw [← hA2]; exact hDr
    have hlt : (l.take i).length = i := by rw [List.length_take, Nat.min_eq_left (Nat.le_of_lt he1)]
    have hld : (l.drop k').length = l.length - k' := List.length_drop
    have HTD := Aside0.mk (⟨hT, hDr, hlt, hld⟩ : _ ∧ _ ∧ _ ∧ _)
    have hw1 : wrap64 ((i : Int) + 1) = (k' : Int) := w64k hk he1 (by omega)
    have c1 : ((i : Int) ≤ (c : Int)) = True := eq_true (by omega)
    have c2 : ((k' : Int) ≤ (l.length : Int)) = True := eq_true (by omega)
    clear hat hdrop he2 hT hDr hlt hld hC2
    refine unpause_ ?_
    go_wp2
    refine start_ (n := 10) (S := fun w' => w'.heap = w2.heap) (ds := [7, 8, 9]) #[false, false, false, false, false, false, false, false, false, false] (by kernel_rfl) rfl rfl rfl (fun hHeld => ?_)
    refine pure_ (i := 0) (N := some 14) (v := ?_) (a' := ?_) #[true, false, false, false, false, false, false, false, false, false] rfl rfl (by kernel_rfl) (fun _ _ _ h => h) (Or.inl ⟨by rfl, ?_⟩) ?_ ?_
    rotate_left
    · intro w'
      go_simp
      with_reducible rfl
    rotate_left
    · simp only [Act.put, List.setIfInBounds_toArray, List.set_cons_zero, List.set_cons_succ, i64_w, i32_w]
      rfl
    refine pure_ (i := 1) (N := some 15) (v := ?_) (a' := ?_) #[true, true, false, false, false, false, false, false, false, false] rfl rfl (by kernel_rfl) (fun _ _ _ h => h) (Or.inl ⟨by rfl, ?_⟩) ?_ ?_
    rotate_left
    · intro w'
      go_simp
      with_reducible rfl
    rotate_left
    · simp only [Act.put, List.setIfInBounds_toArray, List.set_cons_zero, List.set_cons_succ, i64_w, i32_w]
      rfl
    refine pure_ (i := 2) (N := some 16) (v := ?_) (a' := ?_) #[true, true, true, false, false, false, false, false, false, false] rfl rfl (by kernel_rfl) (fun _ _ _ h => h) (Or.inl ⟨by rfl, ?_⟩) ?_ ?_
    rotate_left
    · intro w'
      go_simp
      with_reducible rfl
    rotate_left
    · simp only [Act.put, List.setIfInBounds_toArray, List.set_cons_zero, List.set_cons_succ, i64_w, i32_w]
      rfl
    refine pure_ (i := 3) (N := some 17) (v := ?_) (a' := ?_) #[true, true, true, true, false, false, false, false, false, false] rfl rfl (by kernel_rfl) (fun _ _ _ h => h) (Or.inl ⟨by rfl, ?_⟩) ?_ ?_
    rotate_left
    · intro w'
      go_simp
      with_reducible rfl
    rotate_left
    · simp only [Act.put, List.setIfInBounds_toArray, List.set_cons_zero, List.set_cons_succ, i64_w, i32_w]
      rfl
    refine pure_ (i := 4) (N := some 18) (v := ?_) (a' := ?_) #[true, true, true, true, true, false, false, false, false, false] rfl rfl (by kernel_rfl) (fun _ _ _ h => h) (Or.inl ⟨by rfl, ?_⟩) ?_ ?_
    rotate_left
    · intro w'
      go_simp
      with_reducible rfl
    rotate_left
    · simp only [Act.put, List.setIfInBounds_toArray, List.set_cons_zero, List.set_cons_succ, i64_w, i32_w]
      rfl
    refine pure_ (i := 5) (N := some 19) (v := ?_) (a' := ?_) #[true, true, true, true, true, true, false, false, false, false] rfl rfl (by kernel_rfl) (fun _ _ _ h => h) (Or.inl ⟨by rfl, ?_⟩) ?_ ?_
    rotate_left
    · intro w'
      go_simp
      rw [i64_w, hw1]
      try with_reducible rfl
    rotate_left
    · simp only [Act.put, List.setIfInBounds_toArray, List.set_cons_zero, List.set_cons_succ, i64_w, i32_w]
      rfl
    refine pure_ (i := 6) (N := some 20) (v := ?_) (a' := ?_) #[true, true, true, true, true, true, true, false, false, false] rfl rfl (by kernel_rfl) (fun _ _ _ h => h) (Or.inl ⟨by rfl, ?_⟩) ?_ ?_
    rotate_left
    · intro w'
      go_simp
      with_reducible rfl
    rotate_left
    · simp only [Act.put, List.setIfInBounds_toArray, List.set_cons_zero, List.set_cons_succ, i64_w, i32_w]
      rfl
    refine tail_ 7 (by kernel_rfl) ?_
    simp only [List.toList_toArray, List.drop_succ_cons, List.drop_zero]
    refine bs2_LL rfl (.tmp 16) (.tmp 20) rfl (some ad) i c A2 (l.length - k') (c - k') rfl rfl ?_
    obtain ⟨w3, hw3⟩ : ∃ w3, w2.drew.alloc (.cells #[.slice (some ad) i c, .slice A2 (l.length - k') (c - k')] 24) = w3 := ⟨_, rfl⟩
    obtain ⟨N, hN⟩ : ∃ N, N = w2.drew.heap.size := ⟨_, rfl⟩
    have hb3 : Below w2.heap.size w2 w3 := by rw [← hw3]; exact below_alloc (Below.refl _ _).drew _
    have hx3 : w3.heap[N]? = some (.cells #[.slice (some ad) i c, .slice A2 (l.length - k') (c - k')] 24 (0, 0)) := by rw [← hw3]; exact h_new hN
    rw [hw3, ← hN]
    clear hw3 hN
    have htw : TwoIn w3 N (some ad) A2 c (c - k') (l.take i) (l.drop k') := ⟨by rw [HTD.out.2.2.1, HTD.out.2.2.2]; exact hx3, Kd.C_below HTD.out.1 hb3, Kd.C_below HTD.out.2.1 hb3⟩
    have H3 := Aside0.mk (And.intro htw (below_tr H2.out.2.2.2 hb3 H2.out.2.2.2.size))
    have hi1 : (l.take i).length ≤ 10000 := by rw [HTD.out.2.2.1]; omega
    have hi2 : (l.drop k').length ≤ 10000 := by rw [HTD.out.2.2.2]; omega
    clear htw hb3 hx3
    go_wp2_with (go_at_call 60; (with_reducible refine (concat_calls (l.take i) (l.drop k') (some ad) A2 c (c - k') N w3 H3.out.1 hi1 hi2).mono ?_); rintro e w4 ⟨v4, rfl, hv4, hb4⟩; have H4 := Aside0.mk (And.intro (Kd.R_lower hv4 (Nat.zero_le _)) (below_tr H3.out.2 hb4 H3.out.2.size)); clear hv4 hb4)
    go_ret
    exact ⟨v4, rfl, by rw [HD.out, hk]; exact H4.out.1, H4.out.2⟩
end Go.Proofs.YtanabbjakacgbaaDoor.Sp
namespace Go.Proofs.YtanabbjakacgbaaDoor.Grow
open Go Go.RowKit Go.Proofs.YtanabbjakacgbaaDoorW.PrintWords Go.Proofs.YtanabbjakacgbaaDoorW.PrintLast
set_option linter.unusedVariables false
set_option linter.unusedSimpArgs false
end Go.Proofs.YtanabbjakacgbaaDoor.Grow
namespace Go.Proofs.YtanabbjakacgbaaDoor.Grow
open Go Go.RowKit Go.Proofs.YtanabbjakacgbaaDoorW.PrintWords Go.Proofs.YtanabbjakacgbaaDoorW.PrintLast
set_option linter.unusedVariables false
set_option linter.unusedSimpArgs false
end Go.Proofs.YtanabbjakacgbaaDoor.Grow
namespace Go.Proofs.YtanabbjakacgbaaDoor.Grow
open Go Go.RowKit Go.Proofs.YtanabbjakacgbaaDoorW.PrintWords Go.Proofs.YtanabbjakacgbaaDoorW.PrintLast
set_option linter.unusedVariables false
set_option linter.unusedSimpArgs false
section
variable {P : Program} {ops : Array Oper} {Q : Exit → Act → World → Prop} {S : World → Prop} {ds : List Nat}
def growZB (ops : Array Oper) (ds : List Nat) (n z : Nat) (l0 l1 lz : Array Bool) : Bool :=
  decide (n < ops.size) && decide (l0.size = ops.size) && decide (l1.size = ops.size) &&
  ((List.range n).all fun i => l0.getD i true || match ops[i]? with
    | some o => o.dst.isSome && o.guard.isNone && (o.after.all fun e => !Region.binds .any e || l0.getD e.on false || decide (e.on < i))
    | none => false) &&
  ((List.range n).all fun i => (List.range n).all fun k => decide (i = k) || decide (dstN ops i ≠ dstN ops k)) &&
  ((List.range ops.size).all fun i => decide (i < n) || l0.getD i true || (List.range n).all fun j => decide (j = z) || l0.getD j true || Region.reachB .any ops j 8 i) && Region.closedB .any ops l0 && decide (z < n) && !l0.getD z true && takeB .any ops ds lz l1 z && decide (lz.size = ops.size) && ((List.range ops.size).all fun i => lz.getD i false == ((decide (i < n) && !decide (i = z)) || l0.getD i false)) &&
  ((List.range ops.size).all fun i => l1.getD i false == (decide (i < n) || l0.getD i false))
structure GrowZ (ops : Array Oper) (ds : List Nat) (n z : Nat) (l0 l1 lz : Array Bool) : Prop where
  lt : n < ops.size
  sz : l0.size = ops.size
  sz1 : l1.size = ops.size
  at_ : ∀ i, i < n → l0.getD i true = false → ∃ o, ops[i]? = some o ∧ o.dst = some (dstN ops i) ∧ o.guard = none ∧ (∀ e ∈ o.after, Region.binds .any e = true → l0.getD e.on false = true ∨ e.on < i)
  dis : ∀ j k, j < n → k < n → dstN ops j = dstN ops k → j = k
  wait : ∀ i, i < ops.size → l0.getD i true = false → ¬ i < n → ∀ j, j < n → j ≠ z → l0.getD j true = false → Region.reachB .any ops j 8 i = true
  zn : z < n
  zu : l0.getD z true = false
  zt : takeB .any ops ds lz l1 z = true
  zs : lz.size = ops.size
  zf : ∀ i, i < ops.size → lz.getD i false = ((decide (i < n) && !decide (i = z)) || l0.getD i false)
  closed : ListedClosed .any ops l0
  fin : ∀ i, i < ops.size → l1.getD i false = (decide (i < n) || l0.getD i false)
theorem growZB_spec {n z : Nat} {l0 l1 lz : Array Bool} (h : growZB ops ds n z l0 l1 lz = true) : GrowZ ops ds n z l0 l1 lz := by
  simp only [growZB, Bool.not_eq_true', Bool.and_eq_true, decide_eq_true_eq, List.all_eq_true, List.mem_range, Bool.or_eq_true, beq_iff_eq] at h
  obtain ⟨⟨⟨⟨⟨⟨⟨⟨⟨⟨⟨⟨h1, h2⟩, h3⟩, h4⟩, h5⟩, h6⟩, h8⟩, z1⟩, z2⟩, z3⟩, z4⟩, z5⟩, h7⟩ := h
  refine ⟨h1, h2, h3, fun i hi hu => ?_, fun j k hj hk e => ?_, fun i hi hu hn j hj hjz huj => ?_, z1, z2, z3, z4, fun i hi => z5 i hi, Region.closedB_spec h8, fun i hi => h7 i hi⟩
  · rcases h4 i hi with h | h
    · rw [hu] at h; cases h
    · cases ho : ops[i]? with
      | none => rw [ho] at h; cases h
      | some o =>
        rw [ho] at h
        simp only [Bool.and_eq_true] at h
        obtain ⟨⟨a, b⟩, c⟩ := h
        obtain ⟨N, hN⟩ := Option.isSome_iff_exists.1 a
        refine ⟨o, rfl, by simp [dstN, ho, hN], Option.isNone_iff_eq_none.1 b, fun e he hb => ?_⟩
        have := Array.all_eq_true_iff_forall_mem.1 c e he
        rw [hb] at this
        simpa using this
  · rcases h5 j hj k hk with h | h
    · exact h
    · exact absurd e h
  · rcases h6 i hi with (h | h) | h
    · exact absurd h hn
    · rw [hu] at h; cases h
    · rcases h j hj with (h | h) | h
      · exact absurd h hjz
      · rw [huj] at h; cases h
      · exact h
theorem last_of_grow4 {n z fe : Nat} {l0 l1 lz : Array Bool} (G : GrowZ ops ds n z l0 l1 lz) (hQ : ∀ c a w v, Q (.panic c) (a.put (some (dstN ops z)) v) w → Q (.panic c) a w) {a0 : Act} {w0 : World} (v0 : Nat → Value) (F : Nat → Value → World → Prop) (M : Nat → Bool) (hS : ∀ w, Below w0.heap.size w0 w → S w) (hmono : ∀ i v w w', F i v w → Below w.heap.size w w' → F i v w')
    (hstep : ∀ i o, i < n → l0.getD i true = false → ops[i]? = some o → ∀ vs w, (∀ j, j < n → l0.getD j true = true → vs j = v0 j) → Below w0.heap.size w0 w → (∀ e ∈ o.after, Region.binds .any e = true → e.on < i → l0.getD e.on true = false → F e.on (vs e.on) w) → ∀ K : Act → World → Prop, (∀ v w', F i v w' → Below w.heap.size w w' → (M i = true → ∀ b, blk v = some b → w.heap.size ≤ b ∧ b < w'.heap.size) → K ((ap ops n a0 vs).put o.dst v) w') → o.wp P (ap ops n a0 vs) w K Q)
    (hz : ∀ o, ops[z]? = some o → ∀ vs w, (∀ j, j < n → l0.getD j true = true → vs j = v0 j) → Below w0.heap.size w0 w → (∀ e ∈ o.after, Region.binds .any e = true → e.on < z → l0.getD e.on true = false → F e.on (vs e.on) w) → ∃ v, F z v w ∧ YieldsIf P ops S o v (ap ops n a0 vs)) (hMz : M z = false)
    (hend : ∀ vs w, (∀ j, j < n → l0.getD j true = true → vs j = v0 j) → Below w0.heap.size w0 w → (∀ i, i < n → l0.getD i true = false → F i (vs i) w) → (∀ i j, i < n → l0.getD i true = false → j < n → l0.getD j true = false → i ≠ j → M i = true → M j = true → ∀ b, blk (vs i) = some b → blk (vs j) ≠ some b) → wpAnyLast P .any ops Q S ds fe l1 (ap ops n a0 vs) w) :
    ∀ (f : Nat) (l : Array Bool) (vs : Nat → Value) (w : World), (List.range n).countP (fun i => !l.getD i false) = f → l.size = ops.size → ListedClosed .any ops l → (∀ j, ¬ (j < n ∧ l0.getD j true = false) → l[j]? = l0[j]?) → (∀ j, j < n → l0.getD j true = true → vs j = v0 j) → (∀ i, i < n → l0.getD i true = false → l.getD i false = true → F i (vs i) w) → Below w0.heap.size w0 w →
      (∀ i, i < n → l0.getD i true = false → l.getD i false = true → M i = true → ∀ b, blk (vs i) = some b → b < w.heap.size) → (∀ i j, i < n → l0.getD i true = false → j < n → l0.getD j true = false → l.getD i false = true → l.getD j false = true → i ≠ j → M i = true → M j = true → ∀ b, blk (vs i) = some b → blk (vs j) ≠ some b) →
      wpAnyLast P .any ops Q S ds (f + fe) l (ap ops n a0 vs) w := by
  intro f
  induction f with
  | zero =>
    intro l vs w hf hsz hcl hl hv hF hb hD1 hD2
    have hall : ∀ i, i < n → l.getD i false = true := fun i hi => by
      have := List.countP_eq_zero.1 hf i (List.mem_range.2 hi)
      simpa using this
    have e : l = l1 := by
      apply Array.ext (hsz.trans G.sz1.symm)
      intro i h1 h2
      have h3 : i < ops.size := by omega
      have h4 := G.fin i h3
      have h5 : l.getD i false = l1.getD i false := by
        rw [h4]
        by_cases hi : i < n
        · rw [hall i hi]; simp [hi]
        · rw [getD_same (hl i (fun h => hi h.1)), decide_eq_false hi, Bool.false_or]
      simpa [h1, h2] using h5
    subst e
    rw [Nat.zero_add]
    exact hend vs w hv hb (fun i hi hu => hF i hi hu (hall i hi)) (fun i j hi hui hj huj => hD2 i j hi hui hj huj (hall i hi) (hall j hj))
  | succ f ih =>
    intro l vs w hf hsz hcl hl hv hF hb hD1 hD2
    have hsz2 : ∀ i, i < n → i < l.size := fun i hi => by rw [hsz]; have := G.lt; omega
    have hdone : ∀ j, l0.getD j false = true → l.getD j false = true := fun j hj => by
      by_cases hi : j < n ∧ l0.getD j true = false
      · have h1 : j < l0.size := by rw [G.sz]; have := G.lt; omega
        have hu := hi.2
        simp [h1] at hu hj
        rw [hu] at hj; cases hj
      · rw [getD_same (hl j hi)]; exact hj
    have hun0 : ∀ j, j < n → l.getD j false = false → l0.getD j true = false := fun j hj h => by
      by_cases hi : j < n ∧ l0.getD j true = false
      · exact hi.2
      · have h2 := getD_same (d := true) (hl j hi)
        rw [← h2]
        simp [hsz2 j hj] at h ⊢
        exact h
    have hex : ∃ i, i < n ∧ l.getD i false = false := by
      have h0 : 0 < (List.range n).countP (fun i => !l.getD i false) := by omega
      obtain ⟨i, hi, hp⟩ := List.countP_pos_iff.1 h0
      exact ⟨i, List.mem_range.1 hi, by simpa using hp⟩
    have hready : Region.ready .any ops l ≠ [] := by
      have hmin : ∀ d i, i ≤ d → i < n → l.getD i false = false → Region.ready .any ops l ≠ [] := by
        intro d
        induction d with
        | zero =>
          intro i hid hi hu hne
          obtain ⟨o, ho, _, _, haf⟩ := G.at_ i hi (hun0 i hi hu)
          have : i ∈ Region.ready .any ops l := mem_ready.2 ⟨getD_in (hsz2 i hi) hu, o, ho, fun e he hbd => by
            rcases haf e he hbd with h | h
            · exact hdone _ h
            · omega⟩
          rw [hne] at this
          cases this
        | succ d ihd =>
          intro i hid hi hu
          obtain ⟨o, ho, _, _, haf⟩ := G.at_ i hi (hun0 i hi hu)
          by_cases hc : ∃ j, j < i ∧ l.getD j false = false
          · obtain ⟨j, hj, hju⟩ := hc
            exact ihd j (by omega) (by omega) hju
          · intro hne
            have : i ∈ Region.ready .any ops l := mem_ready.2 ⟨getD_in (hsz2 i hi) hu, o, ho, fun e he hbd => by
              rcases haf e he hbd with h | h
              · exact hdone _ h
              · cases h2 : l.getD e.on false with
                | true => rfl
                | false => exact absurd ⟨e.on, h, h2⟩ hc⟩
            rw [hne] at this
            cases this
      obtain ⟨i, hi, hu⟩ := hex
      exact hmin i i (Nat.le_refl _) hi hu
    have hnext : ∀ i o, i < n → l0.getD i true = false → l.getD i true = false → ops[i]? = some o → (∀ e ∈ o.after, Region.binds .any e = true → l.getD e.on false = true) → ∀ v w', F i v w' → Below w.heap.size w w' → (M i = true → ∀ b, blk v = some b → w.heap.size ≤ b ∧ b < w'.heap.size) → wpAnyLast P .any ops Q S ds (f + fe) (l.setIfInBounds i true) (ap ops n a0 (upd vs i v)) w' := by
      intro i o hin hui hun ho hdep v w' hvv hw' hM
      refine ih (l.setIfInBounds i true) (upd vs i v) w' ?_ (by rw [Array.size_setIfInBounds]; exact hsz) (fun j oj hoj hlj e he hbd => ?_) (fun j hj => ?_) (fun j hj hdj => ?_) (fun j hj huj hlj => ?_) (hb.trans (hw'.mono hb.size)) (fun j hj huj hlj hMj b hbj => ?_) (fun j k hj huj hk huk hlj hlk hjk hMj hMk b hbj hbk => ?_)
      · have hc := count_set (p := fun k => !l.getD k false) (q := fun k => !(l.setIfInBounds i true).getD k false) (i := i) (by simp [getD_both hun]) (by simp [hsz2 i hin]) (fun j hji => by show (!_) = (!_); rw [getD_set_ne false (Ne.symm hji)]) n hin
        omega
      · have hmono' : ∀ k, l.getD k false = true → (l.setIfInBounds i true).getD k false = true := fun k hk => by
          by_cases hki : k = i
          · subst hki; simp [hsz2 k hin]
          · rw [getD_set_ne false (Ne.symm hki)]; exact hk
        by_cases hji : j = i
        · subst hji
          obtain rfl : o = oj := Option.some.inj (ho.symm.trans hoj)
          exact hmono' _ (hdep e he hbd)
        · rw [getD_set_ne false (Ne.symm hji)] at hlj
          exact hmono' _ (hcl j oj hoj hlj e he hbd)
      · rw [Array.getElem?_setIfInBounds_ne (fun e => hj (by rw [← e]; exact ⟨hin, hui⟩))]
        exact hl j hj
      · rw [upd, if_neg (fun e => by rw [e, hui] at hdj; cases hdj)]
        exact hv j hj hdj
      · by_cases hji : j = i
        · subst hji
          rw [upd, if_pos rfl]
          exact hvv
        · rw [upd, if_neg hji]
          rw [getD_set_ne false (Ne.symm hji)] at hlj
          exact hmono _ _ _ _ (hF j hj huj hlj) hw'
      · by_cases hji : j = i
        · subst hji
          rw [upd, if_pos rfl] at hbj
          exact (hM hMj b hbj).2
        · rw [upd, if_neg hji] at hbj
          rw [getD_set_ne false (Ne.symm hji)] at hlj
          exact Nat.lt_of_lt_of_le (hD1 j hj huj hlj hMj b hbj) hw'.size
      · by_cases hji : j = i
        · subst hji
          rw [upd, if_pos rfl] at hbj
          rw [upd, if_neg (Ne.symm hjk)] at hbk
          rw [getD_set_ne false hjk] at hlk
          have h1 := (hM hMj b hbj).1
          have h2 := hD1 k hk huk hlk hMk b hbk
          omega
        · rw [upd, if_neg hji] at hbj
          rw [getD_set_ne false (Ne.symm hji)] at hlj
          by_cases hki : k = i
          · subst hki
            rw [upd, if_pos rfl] at hbk
            have h1 := (hM hMk b hbk).1
            have h2 := hD1 j hj huj hlj hMj b hbj
            omega
          · rw [upd, if_neg hki] at hbk
            rw [getD_set_ne false (Ne.symm hki)] at hlk
            exact hD2 j k hj huj hk huk hlj hlk hjk hMj hMk b hbj hbk
    rw [show f + 1 + fe = (f + fe) + 1 by omega]
    by_cases hoz : ∀ j, j < n → l.getD j false = false → j = z
    · have hlz : l = lz := by
        apply Array.ext (hsz.trans G.zs.symm)
        intro i h1 h2
        have h3 : i < ops.size := by omega
        have h4 := G.zf i h3
        have h5 : l.getD i false = lz.getD i false := by
          rw [h4]
          by_cases hi : i < n
          · by_cases hiz : i = z
            · subst hiz
              have hzl : l.getD i false = false := by
                obtain ⟨j, hj, hju⟩ := hex
                rwa [hoz j hj hju] at hju
              have hz0 : l0.getD i false = false := by
                have := G.zu
                have h6 : i < l0.size := by rw [G.sz]; exact h3
                simp [h6] at this ⊢
                exact this
              rw [hzl, hz0]; simp
            · have : l.getD i false = true := by
                cases hc : l.getD i false with
                | true => rfl
                | false => exact absurd (hoz i hi hc) hiz
              rw [this]; simp [hi, hiz]
          · rw [getD_same (hl i (fun h => hi h.1)), decide_eq_false hi, Bool.false_and, Bool.false_or]
        simpa [h1, h2] using h5
      obtain ⟨o, ho, hdst, hgd, haf⟩ := G.at_ z G.zn G.zu
      have hzl : l.getD z false = false := by
        obtain ⟨j, hj, hju⟩ := hex
        rwa [hoz j hj hju] at hju
      have hdep : ∀ e ∈ o.after, Region.binds .any e = true → l.getD e.on false = true := fun e he hbd => by
        rcases haf e he hbd with h | h
        · exact hdone _ h
        · cases hc : l.getD e.on false with
          | true => rfl
          | false => exact absurd (hoz e.on (by have := G.zn; omega) hc) (by omega)
      obtain ⟨v, hFv, hy⟩ := hz o ho vs w hv hb (fun e he hbd h1 h2 => hF e.on (by have := G.zn; omega) h2 (hdep e he hbd))
      have hun : l.getD z true = false := getD_in (hsz2 z G.zn) hzl
      have hn := hnext z o G.zn G.zu hun ho hdep v w hFv (Below.refl _ _) (fun h => by rw [hMz] at h; cases h)
      refine take_ (i := z) (N := some (dstN ops z)) (v := v) (a' := ap ops n a0 (upd vs z v)) l1 ho hdst (by rw [hlz]; exact G.zt) (fun c a w h => hQ c a w v (by rwa [hdst] at h)) hy (hS w hb) (ap_put G.zn G.dis) ?_
      have hl1 : l.setIfInBounds z true = l1 := by
        have := G.zt
        simp only [takeB, Bool.and_eq_true, beq_iff_eq] at this
        rw [hlz]; exact this.2
      rwa [hl1] at hn
    · obtain ⟨i0, hi0, hu0, hi0z⟩ : ∃ j, j < n ∧ l.getD j false = false ∧ j ≠ z := by
        by_cases hc : ∃ j, j < n ∧ l.getD j false = false ∧ j ≠ z
        · exact hc
        · exact absurd (fun j hj hju => by
            by_cases hjz : j = z
            · exact hjz
            · exact absurd ⟨j, hj, hju, hjz⟩ hc) hoz
      refine ⟨fun h => absurd h hready, fun i hi => ?_⟩
      obtain ⟨hun, o, ho, hdep⟩ := mem_ready.1 hi
      have hilt : i < ops.size := (Array.getElem?_eq_some_iff.1 ho).1
      have hin : i < n := by
        by_cases hin : i < n
        · exact hin
        · have hu : l0.getD i true = false := by rw [← getD_same (hl i (fun h => hin h.1))]; exact hun
          exact absurd hi (Region.reach_not_ready hcl (G.wait i hilt hu hin i0 hi0 hi0z (hun0 i0 hi0 hu0)) (by rw [← hu0]; have := hsz2 i0 hi0; simp [this]))
      have hui := hun0 i hin (getD_both hun)
      obtain ⟨o', ho', hdst, hgd, haf⟩ := G.at_ i hin hui
      obtain rfl : o = o' := Option.some.inj (ho.symm.trans ho')
      refine wpOp_step ho (fun K hK => ?_)
      rw [if_pos (by unfold Region.wanted; rw [hgd])]
      refine hstep i o hin hui ho vs w hv hb (fun e he hbd h1 h2 => hF e.on (by omega) h2 (hdep e he hbd)) K (fun v w' hvv hw' hM => hK _ _ ⟨fun _ _ => hS _ (hb.trans (hw'.mono hb.size)), ?_⟩)
      rw [hdst, ap_put hin G.dis]
      exact hnext i o hin hui hun ho hdep v w' hvv hw' hM
theorem makers4_ {n z f fe fuel : Nat} {a0 : Act} {w0 : World} (l0 l1 lz : Array Bool) (hB : growZB ops ds n z l0 l1 lz = true) (hQ : ∀ c a w v, Q (.panic c) (a.put (some (dstN ops z)) v) w → Q (.panic c) a w) (es : List Nat) (hes : (List.range n).map (dstN ops) = es) (hf : (List.range n).countP (fun i => !l0.getD i false) = f) (hfe : fuel = f + fe)
    (F : Nat → Value → World → Prop) (M : Nat → Bool) (hS : ∀ w, Below w0.heap.size w0 w → S w) (hmono : ∀ i v w w', F i v w → Below w.heap.size w w' → F i v w')
    (hstep : ∀ i o, i < n → l0.getD i true = false → ops[i]? = some o → ∀ vs w, (∀ j, j < n → l0.getD j true = true → vs j = a0.tmps.getD (dstN ops j) undef) → Below w0.heap.size w0 w → (∀ e ∈ o.after, Region.binds .any e = true → e.on < i → l0.getD e.on true = false → F e.on (vs e.on) w) → ∀ K : Act → World → Prop, (∀ v w', F i v w' → Below w.heap.size w w' → (M i = true → ∀ b, blk v = some b → w.heap.size ≤ b ∧ b < w'.heap.size) → K (({ a0 with tmps := fil2 a0.tmps vs es } : Act).put o.dst v) w') → o.wp P { a0 with tmps := fil2 a0.tmps vs es } w K Q)
    (hz : ∀ o, ops[z]? = some o → ∀ vs w, (∀ j, j < n → l0.getD j true = true → vs j = a0.tmps.getD (dstN ops j) undef) → Below w0.heap.size w0 w → (∀ e ∈ o.after, Region.binds .any e = true → e.on < z → l0.getD e.on true = false → F e.on (vs e.on) w) → ∃ v, F z v w ∧ YieldsIf P ops S o v { a0 with tmps := fil2 a0.tmps vs es }) (hMz : M z = false)
    (hend : ∀ vs w, (∀ j, j < n → l0.getD j true = true → vs j = a0.tmps.getD (dstN ops j) undef) → Below w0.heap.size w0 w → (∀ i, i < n → l0.getD i true = false → F i (vs i) w) → (∀ i j, i < n → l0.getD i true = false → j < n → l0.getD j true = false → i ≠ j → M i = true → M j = true → ∀ b, blk (vs i) = some b → blk (vs j) ≠ some b) → wpAnyLast P .any ops Q S ds fe l1 { a0 with tmps := fil2 a0.tmps vs es } w) :
    wpAnyLast P .any ops Q S ds fuel l0 a0 w0 := by
  have G := growZB_spec hB
  have e : ∀ vs, ({ a0 with tmps := fil2 a0.tmps vs es } : Act) = ap ops n a0 vs := fun vs => by
    rw [← hes, fil2_eq]
    rfl
  have hu : ∀ i, i < n → l0.getD i true = false → l0.getD i false = true → False := fun i hi hu h => by
    have h1 : i < l0.size := by rw [G.sz]; have := G.lt; omega
    simp [h1] at hu h
    rw [hu] at h; cases h
  have H := last_of_grow4 (P := P) (Q := Q) (S := S) (ds := ds) (fe := fe) G hQ (a0 := a0) (w0 := w0) (fun i => a0.tmps.getD (dstN ops i) undef) F M hS hmono
    (fun i o hi hu ho vs w hv hb hd K hK => by
      have := hstep i o hi hu ho vs w hv hb hd K (fun v w' h1 h2 h3 => by rw [e]; exact hK v w' h1 h2 h3)
      rwa [e] at this)
    (fun o ho vs w hv hb hd => by have := hz o ho vs w hv hb hd; rwa [e] at this) hMz
    (fun vs w hv hb hF hD => by have := hend vs w hv hb hF hD; rwa [e] at this)
    f l0 (fun i => a0.tmps.getD (dstN ops i) undef) w0 hf G.sz G.closed (fun _ _ => rfl) (fun _ _ _ => rfl) (fun i hi h1 h => (hu i hi h1 h).elim) (Below.refl _ _) (fun i hi h1 h => (hu i hi h1 h).elim) (fun i j hi h1 _ _ h => (hu i hi h1 h).elim)
  rw [ap_self a0 G.dis] at H
  rwa [hfe]
end
end Go.Proofs.YtanabbjakacgbaaDoor.Grow
namespace Go.Proofs.YtanabbjakacgbaaDoor.Sp
open Go.RowKit Go.Proofs.YtanabbjakacgbaaDoorW.PrintWords Go.Proofs.YtanabbjakacgbaaDoorW.PrintLast Go.Proofs.YtanabbjakacgbaaDoorW.PrintMore Go.Proofs.YtanabbjakacgbaaDoor.PM Go.Proofs.YtanabbjakacgbaaDoor.Grow
set_option linter.unusedVariables false
set_option linter.unusedSimpArgs false
set_option maxRecDepth 100000
attribute [local go_sem] Oper.semAt_some
theorem zero33 (w : World) : (zeroValue 33).run Tryd.prog w = .ok (.agg (cL zL)) w := by
  obtain ⟨i, hi, hz⟩ := Option.map_eq_some_iff.1 infoL
  simp only [Prod.mk.injEq] at hz
  simp [zeroValue, typeInfo, hi, hz.1, go_sem]
structure WkSt (w0 : World) (A : Option Addr) (c : Nat) (l : List Lf) (v : Value) (m : List Lf) (w : World) : Prop where
  below : Below w0.heap.size w0 w
  words : Words w
  row : kL.R 33 w 0 (fun _ => True) (.slice A l.length c) l
  ch : kL.R 33 w 0 (fun _ => True) v m
theorem WkSt.next {w0 w w' : World} {A : Option Addr} {c : Nat} {l m : List Lf} {v : Value} (h : WkSt w0 A c l v m w) (hb : Below w.heap.size w w') : WkSt w0 A c l v m w' :=
  ⟨h.below.trans (hb.mono h.below.size), h.words.below hb, Kd.R_below h.row hb, Kd.R_below h.ch hb⟩
end Go.Proofs.YtanabbjakacgbaaDoor.Sp
namespace Go.Proofs.YtanabbjakacgbaaDoor.Sp
open Go.RowKit Go.Proofs.YtanabbjakacgbaaDoorW.PrintWords Go.Proofs.YtanabbjakacgbaaDoorW.PrintLast Go.Proofs.YtanabbjakacgbaaDoorW.PrintMore Go.Proofs.YtanabbjakacgbaaDoor.PM Go.Proofs.YtanabbjakacgbaaDoor.Grow
set_option linter.unusedVariables false
set_option linter.unusedSimpArgs false
set_option maxRecDepth 100000
def Row (w : World) (A : Option Addr) (c : Nat) (l : List Lf) : Prop := kL.R 33 w 0 (fun _ => True) (.slice A l.length c) l
theorem Row.below {w w' : World} {A : Option Addr} {c : Nat} {l : List Lf} (h : Row w A c l) (hb : Below w.heap.size w w') : Row w' A c l := Kd.R_below h hb
theorem Row.C {w : World} {A : Option Addr} {c : Nat} {l : List Lf} (h : Row w A c l) : kL.C w A l.length l := (R_C h).2.2
theorem Row.le {w : World} {A : Option Addr} {c : Nat} {l : List Lf} (h : Row w A c l) : l.length ≤ c := (R_C h).2.1
theorem putP_calls (l : List Lf) (x : Lf) (A : Option Addr) (c : Nat) (w : World) (hr : Row w A c l) (hl : l.length ≤ 10000) (hs : Srt l) (m : List Lf) (hm : putOf l x = m) :
    Calls Tryd.prog 31 #[.slice A l.length c, .agg (cL x)] w fun e w' => ∃ A' c', e = .returned (.slice A' m.length c') ∧ Row w' A' c' m ∧ Below w.heap.size w w' := by
  refine (putm_calls l x A c w hr.C hl hs).mono ?_
  rw [hm]
  rintro e w' ⟨v, rfl, h1, h2⟩
  obtain ⟨A', c', rfl⟩ := Kd.R_slice h1
  exact ⟨A', c', rfl, Kd.R_lower h1 (Nat.zero_le _), h2⟩
theorem dropP_calls (l : List Lf) (k : ByteArray) (A : Option Addr) (c : Nat) (w : World) (hr : Row w A c l) (hl : l.length ≤ 10000) (hs : Srt l) (m : List Lf) (hm : dropOf l k = m) :
    Calls Tryd.prog 32 #[.slice A l.length c, .string k] w fun e w' => ∃ A' c', e = .returned (.slice A' m.length c') ∧ Row w' A' c' m ∧ Below w.heap.size w w' := by
  refine (dropm_calls l k A c w hr hl hs).mono ?_
  rw [hm]
  rintro e w' ⟨v, rfl, h1, h2⟩
  obtain ⟨A', c', rfl⟩ := Kd.R_slice h1
  exact ⟨A', c', rfl, h1, h2⟩
theorem valid4P_calls (l : List Lf) (A : Option Addr) (c : Nat) (w : World) (hr : Row w A c l) (hl : l.length ≤ 10000) (hs : Srt l) :
    Calls Tryd.prog 33 #[.slice A l.length c] w fun e w' => e = .returned (.bool true) ∧ Below w.heap.size w w' := by
  have h := valid4_calls l A c w hr.C hr.le (by omega)
  rwa [valid_srt hs] at h
theorem validmP_calls (l : List Lf) (A : Option Addr) (c : Nat) (w : World) (hr : Row w A c l) (hl : l.length ≤ 10000) (hs : Srt l) :
    Calls Tryd.prog 34 #[.slice A l.length c] w fun e w' => e = .returned (.bool true) ∧ Below w.heap.size w w' := by
  have h := validm_calls l A c w hr.C hr.le (by omega)
  rwa [valid_srt hs] at h
theorem hasP_calls (l : List Lf) (x : Lf) (A : Option Addr) (c : Nat) (w : World) (hr : Row w A c l) (hl : l.length ≤ 10000) (hx : x ∈ l) :
    Calls Tryd.prog 35 #[.slice A l.length c, .agg (cL x)] w fun e w' => e = .returned (.bool true) ∧ Below w.heap.size w w' := by
  have h := Has_calls l x A c w hr.C hr.le (by omega)
  rwa [decide_eq_true hx] at h
theorem sameP_calls (l : List Lf) (A A2 : Option Addr) (c c2 : Nat) (w : World) (hr : Row w A c l) (hr2 : Row w A2 c2 l) (hl : l.length ≤ 10000) :
    Calls Tryd.prog 36 #[.slice A l.length c, .slice A2 l.length c2] w fun e w' => e = .returned (.bool true) ∧ Below w.heap.size w w' := by
  have h := same4_calls l l A c A2 c2 w hr.C hr.le (by omega) hr2.C hr2.le
  rwa [decide_eq_true rfl] at h
structure CgSt (w0 : World) (A Ap Ad : Option Addr) (c cp cd : Nat) (l P D : List Lf) (b7 b8 : Nat) (x y : Lf) (w : World) : Prop where
  below : Below w0.heap.size w0 w
  rl : Row w A c l
  rp : Row w Ap cp P
  rd : Row w Ad cd D
  h7 : w.heap[b7]? = some (.cells (cL x) 33 (0, 0))
  h8 : w.heap[b8]? = some (.cells (cL y) 33 (0, 0))
theorem CgSt.next {w0 w w' : World} {A Ap Ad : Option Addr} {c cp cd : Nat} {l P D : List Lf} {b7 b8 : Nat} {x y : Lf} (h : CgSt w0 A Ap Ad c cp cd l P D b7 b8 x y w) (hb : Below w.heap.size w w') : CgSt w0 A Ap Ad c cp cd l P D b7 b8 x y w' :=
  ⟨below_tr h.below hb h.below.size, h.rl.below hb, h.rp.below hb, h.rd.below hb, at_next h.h7 hb, at_next h.h8 hb⟩
structure Cg0 (w0 : World) (A : Option Addr) (c : Nat) (l : List Lf) (g : Nat) (QQ : Array Value) (w : World) : Prop where
  below : Below w0.heap.size w0 w
  rl : Row w A c l
  bq : w.heap[g]? = some (.cells QQ 39 (0, 0))
theorem Cg0.next {w0 w w' : World} {A : Option Addr} {c g : Nat} {l : List Lf} {QQ : Array Value} (h : Cg0 w0 A c l g QQ w) (hb : Below w.heap.size w w') : Cg0 w0 A c l g QQ w' := ⟨below_tr h.below hb h.below.size, h.rl.below hb, at_next h.bq hb⟩
def cgF (x y : Lf) (B : Nat) (i : Nat) (v : Value) (w : World) : Prop :=
  match i with
  | 2 => v = .string x.k
  | 6 => v = .agg (cL x)
  | 9 => v = .string y.k
  | 13 => v = .agg (cL y)
  | _ => ∃ b, v = .pointer (some ⟨b, 0, none⟩) ∧ B ≤ b ∧ w.heap[b]? = some (.cells (cL zL) 33 (0, 0))
theorem cgF_mono (x y : Lf) (B : Nat) : ∀ i v w w', cgF x y B i v w → Below w.heap.size w w' → cgF x y B i v w' := by
  intro i v w w' h hb
  unfold cgF at h ⊢
  split at h
  · exact h
  · exact h
  · exact h
  · exact h
  · obtain ⟨b, h1, h2, h3⟩ := h; exact ⟨b, h1, h2, at_next h3 hb⟩
end Go.Proofs.YtanabbjakacgbaaDoor.Sp

