/- Put together by this session's program out of: Ig Gw Ih Jw Jm. -/
import Derived.Test.YtanabbjakacgbaaGreatDoorM16
import Derived.Test.YtanabbjakacgbaaGreatDoorM13
import Derived.Test.YtanabbjakacgbaaGreatDoorM15
import Derived.Test.YtanabbjakacgbaaGreatDoorM14
namespace Go.Proofs.YtanabbjakacgbaaGreatDoor.Sp
open Go.RowKit Go.Proofs.YtanabbjakacgbaaGreatDoorW.PrintWords Go.Proofs.YtanabbjakacgbaaGreatDoorW.PrintLast Go.Proofs.YtanabbjakacgbaaGreatDoorW.PrintMore Go.Proofs.YtanabbjakacgbaaGreatDoor.PM
set_option linter.unusedVariables false
set_option linter.unusedSimpArgs false
set_option maxRecDepth 100000
set_option maxHeartbeats 4000000 in
theorem grow_calls (n : Nat) (hn : n ≤ 100000) (w : World) :
  Calls Tryz.prog 72 #[.slice none 0 0, .int .i64 n] w fun e w' => ∃ v, e = .returned v ∧ kL.R 32 w' w.heap.size (fun _ => True) v [] ∧ Below w.heap.size w w' := by
 rcases Nat.eq_zero_or_pos n with h0 | h0
 ·subst h0
  go_enter Tryz.func72, Tryz.ntmps72
  go_wp2
  go_ret
  exact ⟨_, rfl, Kd.R_nil _ _ _ _ _, Below.refl _ _⟩
 ·obtain ⟨i0, hi0, hzz⟩ := Option.map_eq_some_iff.1 infoL
  simp only [Prod.mk.injEq] at hzz
  obtain ⟨hz0, hz1, hz2⟩ := hzz
  obtain ⟨G, hG⟩ : ∃ G, G = grownCap w n 0 32 := ⟨_, rfl⟩
  have hGge : n ≤ G := by rw [hG]; exact grownCap_ge _ _ _ _
  have hGle : G ≤ maxLen := by rw [hG]; exact grownCap_le_maxLen _ _ _ _ (by simp only [maxLen]; omega)
  obtain ⟨ROW, hROW⟩ : ∃ ROW : Array Value, ROW = Builtin.zeroCells (cL zL) n ++ Builtin.zeroCells (cL zL) (G - n) := ⟨_, rfl⟩
  have hRs : ROW.size = G * 33 := by
   rw [hROW]
   simp only [Array.size_append, Builtin.zeroCells, Array.size_map, Array.size_range, cL_size]
   rw [← Nat.add_mul]
   congr 1
   omega
  have hrz : (Builtin.append_ #[25, 3] 25 #[.slice none 0 0, .int .i64 (n : Int)]).run Tryz.prog w = .ok (.slice (some ⟨w.heap.size, 0, none⟩) n G) (w.drew.alloc (.cells ROW 32)) := by
   have h := Lib.run_append_nil_zeros w 25 3 25 32 i0 _ .i64 .i64 Tryz.underlying25 Tryz.underlying3 hi0 hz0 n h0 (by omega) (by omega) (by rw [hz2]; omega)
   rw [h, hROW, hG]
   rfl
  obtain ⟨W1, hW1⟩ : ∃ W1, W1 = w.drew.alloc (.cells ROW 32) := ⟨_, rfl⟩
  rw [← hW1] at hrz
  have h1 : W1.heap[w.heap.size]? = some (.cells ROW 32 (0, 0)) := by rw [hW1]; exact h_new rfl
  have hb : Below w.heap.size w W1 := by rw [hW1]; exact below_alloc (Below.refl _ _).drew _
  have hR : kL.R 32 W1 w.heap.size (fun _ => True) (.slice (some ⟨w.heap.size, 0, none⟩) 0 G) [] := R_of_cells (xs := []) (Nat.le_refl _) h1 (Nat.zero_le _) hGle hRs (by rw [List.length_nil, Nat.zero_mul, List.take_zero]; rfl)
  have HR := Aside0.mk (And.intro hR hb)
  clear hW1 hG hROW hi0 hz0 hz1 hz2 h1 hb hR hRs hGle
  have c5 : ((0 : Int) < (n : Int)) = True := eq_true (by omega)
  have c6 : (0 < n) = True := eq_true h0
  go_enter Tryz.func72, Tryz.ntmps72
  go_wp2_with (first
   | ((with_reducible refine gate_dst (N := 22) rfl ?_); (refine Lib.wpList_append_run _ rfl _ _ _ _ rfl _ _ rfl rfl _ _ hrz ?_)))
  go_ret
  exact ⟨_, rfl, HR.out.1, HR.out.2⟩
structure TwoIn (w : World) (N : Nat) (A1 A2 : Option Addr) (c1 c2 : Nat) (l1 l2 : List Lf) : Prop where
 b : w.heap[N]? = some (.cells #[.slice A1 l1.length c1, .slice A2 l2.length c2] 25 (0, 0))
 r1 : kL.C w A1 l1.length l1
 r2 : kL.C w A2 l2.length l2
theorem TwoIn.below {w w' : World} {N : Nat} {A1 A2 : Option Addr} {c1 c2 : Nat} {l1 l2 : List Lf} (h : TwoIn w N A1 A2 c1 c2 l1 l2) (hb : Below w.heap.size w w') : TwoIn w' N A1 A2 c1 c2 l1 l2 := ⟨at_next h.b hb, Kd.C_below h.r1 hb, Kd.C_below h.r2 hb⟩
theorem TwoIn.c0 {w : World} {N : Nat} {A1 A2 : Option Addr} {c1 c2 : Nat} {l1 l2 : List Lf} (h : TwoIn w N A1 A2 c1 c2 l1 l2) : w.cell? ⟨N, 0, none⟩ = some (.slice A1 l1.length c1) := (cell_of_row w N 0 _ 25 _ h.b).trans rfl
theorem TwoIn.c1 {w : World} {N : Nat} {A1 A2 : Option Addr} {c1 c2 : Nat} {l1 l2 : List Lf} (h : TwoIn w N A1 A2 c1 c2 l1 l2) : w.cell? ⟨N, 1, none⟩ = some (.slice A2 l2.length c2) := (cell_of_row w N 1 _ 25 _ h.b).trans rfl
def sum2 (l1 l2 : List Lf) (j : Nat) : Nat := if j = 0 then 0 else if j = 1 then l1.length else l1.length + l2.length
def cat2 (l1 l2 : List Lf) (j : Nat) : List Lf := if j = 0 then [] else if j = 1 then l1 else l1 ++ l2
set_option maxHeartbeats 4000000 in
theorem concat_calls (l1 l2 : List Lf) (A1 A2 : Option Addr) (c1 c2 N : Nat) (w : World) (h : TwoIn w N A1 A2 c1 c2 l1 l2) (hl1 : l1.length ≤ 10000) (hl2 : l2.length ≤ 10000) :
  Calls Tryz.prog 45 #[.slice (some ⟨N, 0, none⟩) 2 2] w fun e w' => ∃ v, e = .returned v ∧ kL.R 32 w' w.heap.size (fun _ => True) v (l1 ++ l2) ∧ Below w.heap.size w w' := by
 have HT := Aside0.mk h
 have hx0 := h.c0
 have hx1 := h.c1
 clear h
 go_enter Tryz.func45, Tryz.ntmps45
 go_wp2
 go_loopw [3, 5, 11] (fun z s i wr => ∃ j : Nat, i = .int .i64 (j : Int) ∧ j ≤ 2 ∧ z = .int .i64 (sum2 l1 l2 j : Int) ∧ w = wr) (fun _ _ i _ => 2 - (intOf i).toNat)
 case atStart => exact ⟨0, by simp, by omega, by simp [sum2], rfl⟩
 case round =>
  obtain ⟨j, rfl, hj, rfl, rfl⟩ := hrel
  rcases (show j = 0 ∨ j = 1 ∨ j = 2 by omega) with rfl | rfl | rfl
  ·have e0 : sum2 l1 l2 0 = 0 := rfl
   go_wp2
   exact ⟨⟨1, by simp, by omega, by simp [sum2], by first | trivial | rfl⟩, by simp [intOf]⟩
  ·have e1 : sum2 l1 l2 1 = l1.length := rfl
   rw [e1]
   go_wp2
   exact ⟨⟨2, by simp, by omega, by simp [sum2], by first | trivial | rfl⟩, by simp [intOf]⟩
  ·have e2 : sum2 l1 l2 2 = l1.length + l2.length := rfl
   rw [e2]
   clear e2
   obtain ⟨n, hn⟩ : ∃ n, l1.length + l2.length = n := ⟨_, rfl⟩
   rw [hn]
   go_wp2_with (go_at_call 72; (with_reducible refine (grow_calls n (by omega) w).mono ?_); rintro e w1 ⟨v1, rfl, hv1, hb1⟩; have H1 := Aside0.mk (And.intro hv1 hb1); clear hv1 hb1)
   go_loopw [6, 8, 27] (fun v s i W => ∃ (j : Nat) (v' : Value), v' = v ∧ i = .int .i64 (j : Int) ∧ j ≤ 2 ∧ Aside0 (kL.R 32 W w.heap.size (fun _ => True) v' (cat2 l1 l2 j) ∧ Below w.heap.size w W)) (fun _ _ i _ => 2 - (intOf i).toNat)
   case atStart => exact ⟨0, _, rfl, by simp, by omega, H1⟩
   case round =>
    clear H1 hx0 hx1
    obtain ⟨j, v, rfl, rfl, hj, HR⟩ := hrel
    have HI := Aside0.mk (HT.out.below HR.out.2)
    have hx0 := HI.out.c0
    have hx1 := HI.out.c1
    have hsz := HR.out.2.size
    rcases (show j = 0 ∨ j = 1 ∨ j = 2 by omega) with rfl | rfl | rfl
    ·go_wp2_with (first
      | ((with_reducible refine gate_dst (N := 33) rfl ?_); (refine app_Lall (wa := w) rfl (.tmp 31) (.tmp 32) rfl v [] l1 A1 c1 rfl rfl w.heap.size HR.out.1 HI.out.r1 HR.out.2 hsz (by simp; omega) ?_); intro v1 w2 hv1 hb1 hg1; have H1 := Aside0.mk (And.intro hv1 hb1); clear hv1 hb1 hg1 hx0 hx1 hsz))
     exact ⟨⟨1, v1, rfl, by simp, by omega, H1⟩, by simp [intOf]⟩
    ·go_wp2_with (first
      | ((with_reducible refine gate_dst (N := 33) rfl ?_); (refine app_Lall (wa := w) rfl (.tmp 31) (.tmp 32) rfl v l1 l2 A2 c2 rfl rfl w.heap.size HR.out.1 HI.out.r2 HR.out.2 hsz (by omega) ?_); intro v1 w2 hv1 hb1 hg1; have H1 := Aside0.mk (And.intro hv1 hb1); clear hv1 hb1 hg1 hx0 hx1 hsz))
     exact ⟨⟨2, v1, rfl, by simp, by omega, H1⟩, by simp [intOf]⟩
    ·clear hx0 hx1 hsz
     go_wp2
     go_ret
     exact ⟨v, rfl, HR.out.1, HR.out.2⟩
theorem infoLL : (Tryz.prog.info? 25).map (fun i => (i.zero, i.size, i.bytes)) = some (some (.slice none 0 0), 1, 24) := by kernel_rfl
theorem bs2_LL {ops : Array Oper} {rest : List Oper} {o : Oper} {a : Act} {Q : Exit → Act → World → Prop} {w : World} (hg : o.guard = none) (x y : Operand) (ho : o.op = .buildSlice 120 2 #[(0, x), (1, y)]) (A1 : Option Addr) (n1 c1 : Nat) (A2 : Option Addr) (n2 c2 : Nat) (hx : a.eval x = .slice A1 n1 c1) (hy : a.eval y = .slice A2 n2 c2)
  (h : wpList Tryz.prog ops Q rest (a.put o.dst (.slice (some ⟨w.heap.size, 0, none⟩) 2 2)) (w.alloc (.cells #[.slice A1 n1 c1, .slice A2 n2 c2] 25))) : wpList Tryz.prog ops Q (o :: rest) a w := by
 obtain ⟨ie, hi, hzz⟩ := Option.map_eq_some_iff.1 infoLL
 simp only [Prod.mk.injEq] at hzz
 refine wpList_buildSlice hg 120 25 2 _ ho #[.slice A1 n1 c1, .slice A2 n2 c2] ie (.slice none 0 0) Tryz.underlying120 hi hzz.1 (by rw [hzz.2.1]; omega) (by rw [hzz.2.1]; omega) ?_ h
 have e : (Array.map (fun x : Nat × Operand => (x.1, a.eval x.2)) #[(0, x), (1, y)]).toList = [(0, .slice A1 n1 c1), (1, .slice A2 n2 c2)] := by simp [hx, hy]
 rw [e, hzz.2.1]
 exact fill_two 0 1 (.slice A1 n1 c1) (.slice A2 n2 c2) _ _ (by simp [Value.cells]) (by simp [Value.cells]) (by simp [Value.cells])
set_option maxHeartbeats 4000000 in
theorem dropm_calls (l : List Lf) (k : ByteArray) (A : Option Addr) (c : Nat) (w : World) (hr : kL.R 32 w 0 (fun _ => True) (.slice A l.length c) l) (hl : l.length ≤ 10000) (hs : Srt l) :
  Calls Tryz.prog 21 #[.slice A l.length c, .string k] w fun e w' => ∃ v, e = .returned v ∧ kL.R 32 w' 0 (fun _ => True) v (dropOf l k) ∧ Below w.heap.size w w' := by
 have HS := Aside0.mk (⟨hr, (R_C hr).2.2, hs⟩ : _ ∧ _ ∧ _)
 clear hr hs
 go_enter Tryz.func21, Tryz.ntmps21
 go_wp2_with (first
  | (go_at_call 43; (with_reducible refine (find_calls l k A c w HS.out.2.1 (by omega) (srt_mono HS.out.2.2 k)).mono ?_); rintro e w2 ⟨i, q, hp, hq, rfl, hb2⟩; have H2 := Aside0.mk (⟨hp, hq, Kd.R_below HS.out.1 hb2, hb2⟩ : _ ∧ _ ∧ _ ∧ _); clear hp hq hb2; refine pause_ ?_))
 cases q with
 | false =>
  have hdrop : dropOf l k = l := H2.out.1.drop_new HS.out.2.2 (of_decide_eq_false H2.out.2.1)
  refine unpause_ ?_
  go_wp2
  go_ret
  exact ⟨_, rfl, by rw [hdrop]; exact H2.out.2.2.1, H2.out.2.2.2⟩
 | true =>
  obtain ⟨he1, he2⟩ := of_decide_eq_true H2.out.2.1
  have hdrop : dropOf l k = l.take i ++ l.drop (i + 1) := H2.out.1.drop_old HS.out.2.2 ⟨he1, he2⟩
  have HD := Aside0.mk hdrop
  have hC2 : kL.C w2 A l.length l := (R_C H2.out.2.2.1).2.2
  have hcc : l.length ≤ c := (R_C H2.out.2.2.1).2.1
  obtain ⟨ad, eA, hat⟩ := at_flat hC2 zL (i : Int) (by omega) (by omega)
  subst eA
  have hT := Kd.C_take (m := i) hC2 (Nat.le_of_lt he1)
  obtain ⟨k', hk⟩ : ∃ k', i + 1 = k' := ⟨_, rfl⟩
  have hDr := Kd.C_drop (m := k') (c := c) hC2 (by omega) hcc
  obtain ⟨A2, hA2⟩ : ∃ A2, (if c = k' then some ad else some (ad.add (k' * 33))) = A2 := ⟨_, rfl⟩
  have hDr : kL.C w2 A2 (l.drop k').length (l.drop k') := by rw [← hA2]; exact hDr
  have hlt : (l.take i).length = i := by rw [List.length_take, Nat.min_eq_left (Nat.le_of_lt he1)]
  have hld : (l.drop k').length = l.length - k' := List.length_drop
  have HTD := Aside0.mk (⟨hT, hDr, hlt, hld⟩ : _ ∧ _ ∧ _ ∧ _)
  have hw1 : wrap64 ((i : Int) + 1) = (k' : Int) := w64k hk he1 (by omega)
  have c1 : ((i : Int) ≤ (c : Int)) = True := eq_true (by omega)
  have c2 : ((k' : Int) ≤ (l.length : Int)) = True := eq_true (by omega)
  clear hat hdrop he2 hT hDr hlt hld hC2
  refine unpause_ ?_
  go_wp2
  refine start_ (n := 10) (S := fun w' => w'.heap = w2.heap) (ds := [7, 8, 9]) #[false, false, false, false, false, false, false, false, false, false] (by kernel_rfl) rfl rfl rfl (fun hHeld => ?_)
  refine pure_ (i := 0) (N := some 14) (v := ?_) (a' := ?_) #[true, false, false, false, false, false, false, false, false, false] rfl rfl (by kernel_rfl) (fun _ _ _ h => h) (Or.inl ⟨by rfl, ?_⟩) ?_ ?_
  rotate_left
  ·intro w'
   go_simp
   with_reducible rfl
  rotate_left
  ·simp only [Act.put, lZa, lZb, lZc, i64_w, i32_w]
   rfl
  refine pure_ (i := 1) (N := some 15) (v := ?_) (a' := ?_) #[true, true, false, false, false, false, false, false, false, false] rfl rfl (by kernel_rfl) (fun _ _ _ h => h) (Or.inl ⟨by rfl, ?_⟩) ?_ ?_
  rotate_left
  ·intro w'
   go_simp
   with_reducible rfl
  rotate_left
  ·simp only [Act.put, lZa, lZb, lZc, i64_w, i32_w]
   rfl
  refine pure_ (i := 2) (N := some 16) (v := ?_) (a' := ?_) #[true, true, true, false, false, false, false, false, false, false] rfl rfl (by kernel_rfl) (fun _ _ _ h => h) (Or.inl ⟨by rfl, ?_⟩) ?_ ?_
  rotate_left
  ·intro w'
   go_simp
   with_reducible rfl
  rotate_left
  ·simp only [Act.put, lZa, lZb, lZc, i64_w, i32_w]
   rfl
  refine pure_ (i := 3) (N := some 17) (v := ?_) (a' := ?_) #[true, true, true, true, false, false, false, false, false, false] rfl rfl (by kernel_rfl) (fun _ _ _ h => h) (Or.inl ⟨by rfl, ?_⟩) ?_ ?_
  rotate_left
  ·intro w'
   go_simp
   with_reducible rfl
  rotate_left
  ·simp only [Act.put, lZa, lZb, lZc, i64_w, i32_w]
   rfl
  refine pure_ (i := 4) (N := some 18) (v := ?_) (a' := ?_) #[true, true, true, true, true, false, false, false, false, false] rfl rfl (by kernel_rfl) (fun _ _ _ h => h) (Or.inl ⟨by rfl, ?_⟩) ?_ ?_
  rotate_left
  ·intro w'
   go_simp
   with_reducible rfl
  rotate_left
  ·simp only [Act.put, lZa, lZb, lZc, i64_w, i32_w]
   rfl
  refine pure_ (i := 5) (N := some 19) (v := ?_) (a' := ?_) #[true, true, true, true, true, true, false, false, false, false] rfl rfl (by kernel_rfl) (fun _ _ _ h => h) (Or.inl ⟨by rfl, ?_⟩) ?_ ?_
  rotate_left
  ·intro w'
   go_simp
   rw [i64_w, hw1]
   try with_reducible rfl
  rotate_left
  ·simp only [Act.put, lZa, lZb, lZc, i64_w, i32_w]
   rfl
  refine pure_ (i := 6) (N := some 20) (v := ?_) (a' := ?_) #[true, true, true, true, true, true, true, false, false, false] rfl rfl (by kernel_rfl) (fun _ _ _ h => h) (Or.inl ⟨by rfl, ?_⟩) ?_ ?_
  rotate_left
  ·intro w'
   go_simp
   with_reducible rfl
  rotate_left
  ·simp only [Act.put, lZa, lZb, lZc, i64_w, i32_w]
   rfl
  refine tail_ 7 (by kernel_rfl) ?_
  simp only [List.toList_toArray, List.drop_succ_cons, List.drop_zero]
  refine bs2_LL rfl (.tmp 16) (.tmp 20) rfl (some ad) i c A2 (l.length - k') (c - k') rfl rfl ?_
  obtain ⟨w3, hw3⟩ : ∃ w3, w2.drew.alloc (.cells #[.slice (some ad) i c, .slice A2 (l.length - k') (c - k')] 25) = w3 := ⟨_, rfl⟩
  obtain ⟨N, hN⟩ : ∃ N, N = w2.drew.heap.size := ⟨_, rfl⟩
  have hb3 : Below w2.heap.size w2 w3 := by rw [← hw3]; exact below_alloc (Below.refl _ _).drew _
  have hx3 : w3.heap[N]? = some (.cells #[.slice (some ad) i c, .slice A2 (l.length - k') (c - k')] 25 (0, 0)) := by rw [← hw3]; exact h_new hN
  rw [hw3, ← hN]
  clear hw3 hN
  have htw : TwoIn w3 N (some ad) A2 c (c - k') (l.take i) (l.drop k') := ⟨by rw [HTD.out.2.2.1, HTD.out.2.2.2]; exact hx3, Kd.C_below HTD.out.1 hb3, Kd.C_below HTD.out.2.1 hb3⟩
  have H3 := Aside0.mk (And.intro htw (below_tr H2.out.2.2.2 hb3 H2.out.2.2.2.size))
  have hi1 : (l.take i).length ≤ 10000 := by rw [HTD.out.2.2.1]; omega
  have hi2 : (l.drop k').length ≤ 10000 := by rw [HTD.out.2.2.2]; omega
  clear htw hb3 hx3
  go_wp2_with (go_at_call 45; (with_reducible refine (concat_calls (l.take i) (l.drop k') (some ad) A2 c (c - k') N w3 H3.out.1 hi1 hi2).mono ?_); rintro e w4 ⟨v4, rfl, hv4, hb4⟩; have H4 := Aside0.mk (And.intro (Kd.R_lower hv4 (Nat.zero_le _)) (below_tr H3.out.2 hb4 H3.out.2.size)); clear hv4 hb4)
  go_ret
  exact ⟨v4, rfl, by rw [HD.out, hk]; exact H4.out.1, H4.out.2⟩
end Go.Proofs.YtanabbjakacgbaaGreatDoor.Sp
namespace Go.Proofs.YtanabbjakacgbaaGreatDoor.Grow
open Go Go.RowKit Go.Proofs.YtanabbjakacgbaaGreatDoorW.PrintWords Go.Proofs.YtanabbjakacgbaaGreatDoorW.PrintLast
set_option linter.unusedVariables false
set_option linter.unusedSimpArgs false
end Go.Proofs.YtanabbjakacgbaaGreatDoor.Grow
namespace Go.Proofs.YtanabbjakacgbaaGreatDoor.Sp
open Go.RowKit Go.Proofs.YtanabbjakacgbaaGreatDoorW.PrintWords Go.Proofs.YtanabbjakacgbaaGreatDoorW.PrintLast Go.Proofs.YtanabbjakacgbaaGreatDoorW.PrintMore Go.Proofs.YtanabbjakacgbaaGreatDoor.PM Go.Proofs.YtanabbjakacgbaaGreatDoor.Grow
set_option linter.unusedVariables false
set_option linter.unusedSimpArgs false
set_option maxRecDepth 100000
def Row (w : World) (A : Option Addr) (c : Nat) (l : List Lf) : Prop := kL.R 32 w 0 (fun _ => True) (.slice A l.length c) l
theorem Row.below {w w' : World} {A : Option Addr} {c : Nat} {l : List Lf} (h : Row w A c l) (hb : Below w.heap.size w w') : Row w' A c l := Kd.R_below h hb
theorem Row.C {w : World} {A : Option Addr} {c : Nat} {l : List Lf} (h : Row w A c l) : kL.C w A l.length l := (R_C h).2.2
theorem Row.le {w : World} {A : Option Addr} {c : Nat} {l : List Lf} (h : Row w A c l) : l.length ≤ c := (R_C h).2.1
theorem putP_calls (l : List Lf) (x : Lf) (A : Option Addr) (c : Nat) (w : World) (hr : Row w A c l) (hl : l.length ≤ 10000) (hs : Srt l) (m : List Lf) (hm : putOf l x = m) :
  Calls Tryz.prog 19 #[.slice A l.length c, .agg (cL x)] w fun e w' => ∃ A' c', e = .returned (.slice A' m.length c') ∧ Row w' A' c' m ∧ Below w.heap.size w w' := by
 refine (putm_calls l x A c w hr.C hl hs).mono ?_
 rw [hm]
 rintro e w' ⟨v, rfl, h1, h2⟩
 obtain ⟨A', c', rfl⟩ := Kd.R_slice h1
 exact ⟨A', c', rfl, Kd.R_lower h1 (Nat.zero_le _), h2⟩
theorem dropP_calls (l : List Lf) (k : ByteArray) (A : Option Addr) (c : Nat) (w : World) (hr : Row w A c l) (hl : l.length ≤ 10000) (hs : Srt l) (m : List Lf) (hm : dropOf l k = m) :
  Calls Tryz.prog 21 #[.slice A l.length c, .string k] w fun e w' => ∃ A' c', e = .returned (.slice A' m.length c') ∧ Row w' A' c' m ∧ Below w.heap.size w w' := by
 refine (dropm_calls l k A c w hr hl hs).mono ?_
 rw [hm]
 rintro e w' ⟨v, rfl, h1, h2⟩
 obtain ⟨A', c', rfl⟩ := Kd.R_slice h1
 exact ⟨A', c', rfl, h1, h2⟩
theorem sameP_calls (l : List Lf) (A A2 : Option Addr) (c c2 : Nat) (w : World) (hr : Row w A c l) (hr2 : Row w A2 c2 l) (hl : l.length ≤ 10000) :
  Calls Tryz.prog 18 #[.slice A l.length c, .slice A2 l.length c2] w fun e w' => e = .returned (.bool true) ∧ Below w.heap.size w w' := by
 have h := same4_calls l l A c A2 c2 w hr.C hr.le (by omega) hr2.C hr2.le
 rwa [decide_eq_true rfl] at h
structure CgSt (w0 : World) (A Ap Ad : Option Addr) (c cp cd : Nat) (l P D : List Lf) (b7 b8 : Nat) (x y : Lf) (w : World) : Prop where
 below : Below w0.heap.size w0 w
 rl : Row w A c l
 rp : Row w Ap cp P
 rd : Row w Ad cd D
 h7 : w.heap[b7]? = some (.cells (cL x) 32 (0, 0))
 h8 : w.heap[b8]? = some (.cells (cL y) 32 (0, 0))
theorem CgSt.next {w0 w w' : World} {A Ap Ad : Option Addr} {c cp cd : Nat} {l P D : List Lf} {b7 b8 : Nat} {x y : Lf} (h : CgSt w0 A Ap Ad c cp cd l P D b7 b8 x y w) (hb : Below w.heap.size w w') : CgSt w0 A Ap Ad c cp cd l P D b7 b8 x y w' :=
 ⟨below_tr h.below hb h.below.size, h.rl.below hb, h.rp.below hb, h.rd.below hb, at_next h.h7 hb, at_next h.h8 hb⟩
structure Cg0 (w0 : World) (A : Option Addr) (c : Nat) (l : List Lf) (g : Nat) (QQ : Array Value) (w : World) : Prop where
 below : Below w0.heap.size w0 w
 rl : Row w A c l
 bq : w.heap[g]? = some (.cells QQ 23 (0, 0))
theorem Cg0.next {w0 w w' : World} {A : Option Addr} {c g : Nat} {l : List Lf} {QQ : Array Value} (h : Cg0 w0 A c l g QQ w) (hb : Below w.heap.size w w') : Cg0 w0 A c l g QQ w' := ⟨below_tr h.below hb h.below.size, h.rl.below hb, at_next h.bq hb⟩
end Go.Proofs.YtanabbjakacgbaaGreatDoor.Sp
namespace Go.Proofs.YtanabbjakacgbaaGreatDoor.Sp
open Go.RowKit Go.Proofs.YtanabbjakacgbaaGreatDoorW.PrintWords Go.Proofs.YtanabbjakacgbaaGreatDoorW.PrintLast Go.Proofs.YtanabbjakacgbaaGreatDoorW.PrintMore Go.Proofs.YtanabbjakacgbaaGreatDoor.PM Go.Proofs.YtanabbjakacgbaaGreatDoor.Grow
set_option linter.unusedVariables false
set_option linter.unusedSimpArgs false
set_option maxRecDepth 100000
structure Gr (w : World) (x : Pv) : Prop where
 C : kS.C w x.A x.q.p.length x.q.p
 len : x.q.p.length ≤ 256
 key : x.q.l.k.size ≤ 100000
theorem Gr.below {w w' : World} {x : Pv} (h : Gr w x) (hb : Below w.heap.size w w') : Gr w' x := ⟨Kd.C_below h.C hb, h.len, h.key⟩
theorem ProveM_calls (l : List Lf) (k : ByteArray) (A : Option Addr) (c : Nat) (w : World) (hW : Words w) (hr : Row w A c l) (hl : SmL l) (hk1 : k.size ≤ 100000) (p : Pf) (hp : proveOf l k = p) :
  Calls Tryz.prog 13 #[.slice A l.length c, .string k] w fun e w' => ∃ x : Pv, x.q = p ∧ e = .returned (.agg (cV x)) ∧ Gr w' x ∧ Below w.heap.size w w' := by
 refine (ProveR_calls l k A c w hW hr hl hk1 p hp).mono ?_
 rintro e w' ⟨A', c', C, rfl, rfl, h1, h2⟩
 subst hp
 exact ⟨⟨A', c', proveOf l k⟩, rfl, rfl, ⟨h1, path_len l k, prove_sm hl k⟩, h2⟩
theorem Prove4M_calls (l : List Lf) (k : ByteArray) (A : Option Addr) (c : Nat) (w : World) (hr : Row w A c l) (hl : SmL l) (hk1 : k.size ≤ 100000) (p : Pf) (hp : proveOf l k = p) :
  Calls Tryz.prog 7 #[.slice A l.length c, .string k] w fun e w' => ∃ x : Pv, x.q = p ∧ e = .returned (.agg (cV x)) ∧ Gr w' x ∧ Below w.heap.size w w' := by
 refine (Prove4R_calls l k A c w hr hl hk1 p hp).mono ?_
 rintro e w' ⟨A', c', C, rfl, rfl, h1, h2⟩
 subst hp
 exact ⟨⟨A', c', proveOf l k⟩, rfl, rfl, ⟨h1, path_len l k, prove_sm hl k⟩, h2⟩
theorem samePv_calls (x y : Pv) (h : x.q = y.q) (w : World) (hx : Gr w x) (hy : Gr w y) :
  Calls Tryz.prog 12 #[.agg (cV x), .agg (cV y)] w fun r w' => r = .returned (.bool true) ∧ Below w.heap.size w w' := by
 obtain ⟨A, c, q⟩ := x
 obtain ⟨A2, c2, q2⟩ := y
 obtain rfl : q = q2 := h
 exact sameProof_calls q.p q.e q.l A A2 c c2 w hx.C hy.C hx.len
theorem check4V_calls (x : Pv) (root : Sm) (k : ByteArray) (hk1 : k.size ≤ 100000) (w : World) (hC : kS.C w x.A x.q.p.length x.q.p) (hlen : x.q.p.length ≤ 257) (hkey : x.q.l.k.size ≤ 100000) (q : Ck) (hq : ckOf root k x.q.p x.q.e x.q.l = q) :
  Calls Tryz.prog 17 #[.agg (cS root), .string k, .agg (cV x)] w fun r w' => r = .returned (.agg (cK q)) ∧ Below w.heap.size w w' := by
 subst hq
 exact Check4_calls root k hk1 x.A x.q.p x.c (by omega) x.q.e x.q.l hkey w hC
theorem put4P_calls (l : List Lf) (x : Lf) (A : Option Addr) (c : Nat) (w : World) (hr : Row w A c l) (hl : l.length ≤ 10000) (m : List Lf) (hm : putOf l x = m) :
  Calls Tryz.prog 20 #[.slice A l.length c, .agg (cL x)] w fun e w' => ∃ A' c', e = .returned (.slice A' m.length c') ∧ Row w' A' c' m ∧ Below w.heap.size w w' := by
 refine (put4_calls l x A c w hr.C hr.le (by omega)).mono ?_
 rw [hm]
 rintro e w' ⟨v, rfl, h1, h2⟩
 obtain ⟨A', c', rfl⟩ := Kd.R_slice h1
 exact ⟨A', c', rfl, Kd.R_lower h1 (Nat.zero_le _), h2⟩
theorem drop4P_calls (l : List Lf) (k : ByteArray) (A : Option Addr) (c : Nat) (w : World) (hr : Row w A c l) (hl : l.length ≤ 10000) (m : List Lf) (hm : dropOf l k = m) :
  Calls Tryz.prog 22 #[.slice A l.length c, .string k] w fun e w' => ∃ A' c', e = .returned (.slice A' m.length c') ∧ Row w' A' c' m ∧ Below w.heap.size w w' := by
 refine (drop4_calls l k A c w hr.C hr.le (by omega)).mono ?_
 rw [hm]
 rintro e w' ⟨v, rfl, h1, h2⟩
 obtain ⟨A', c', rfl⟩ := Kd.R_slice h1
 exact ⟨A', c', rfl, Kd.R_lower h1 (Nat.zero_le _), h2⟩
theorem valid4B_calls (l : List Lf) (A : Option Addr) (c : Nat) (w : World) (hr : Row w A c l) (hl : l.length ≤ 10000) (q : Bool) (hq : validB l = q) :
  Calls Tryz.prog 24 #[.slice A l.length c] w fun e w' => e = .returned (.bool q) ∧ Below w.heap.size w w' := by
 subst hq
 exact valid4_calls l A c w hr.C hr.le (by omega)
theorem validmB_calls (l : List Lf) (A : Option Addr) (c : Nat) (w : World) (hr : Row w A c l) (hl : l.length ≤ 10000) (q : Bool) (hq : validB l = q) :
  Calls Tryz.prog 23 #[.slice A l.length c] w fun e w' => e = .returned (.bool q) ∧ Below w.heap.size w w' := by
 subst hq
 exact validm_calls l A c w hr.C hr.le (by omega)
theorem box_one {w wx wy : World} {n t : Nat} (hn : n = w.heap.size) {Z C : Array Value} (hx : w.alloc (.cells Z t) = wx) (hy : wx.setRow n C = wy) :
  wx.heap[n]? = some (.cells Z t (0, 0)) ∧ wy.heap[n]? = some (.cells C t (0, 0)) ∧ Below w.heap.size w wy := by
 have h0 : wx.heap[n]? = some (.cells Z t (0, 0)) := by rw [← hx]; exact h_new hn
 refine ⟨h0, by rw [← hy]; exact setRow_heap _ _ _ _ _ _ h0, ?_⟩
 rw [← hy, ← hx]
 exact below_setRow (below_alloc (Below.refl _ _) _) (by omega)
structure Mm1 (w0 : World) (g : Nat) (QQ : Array Value) (A Am : Option Addr) (c cm : Nat) (l m : List Lf) (n4 : Nat) (px : Pv) (w : World) : Prop where
 below : Below w0.heap.size w0 w
 words : Words w
 bq : w.heap[g]? = some (.cells QQ 23 (0, 0))
 rl : Row w A c l
 rm : Row w Am cm m
 bp : w.heap[n4]? = some (.cells (cV px) 34 (0, 0))
 gp : Gr w px
theorem Mm1.next {w0 w w' : World} {g c cm n4 : Nat} {QQ : Array Value} {A Am : Option Addr} {l m : List Lf} {px : Pv} (h : Mm1 w0 g QQ A Am c cm l m n4 px w) (hb : Below w.heap.size w w') : Mm1 w0 g QQ A Am c cm l m n4 px w' :=
 ⟨below_tr h.below hb h.below.size, h.words.below hb, at_next h.bq hb, h.rl.below hb, h.rm.below hb, at_next h.bp hb, h.gp.below hb⟩
structure Mm2 (w0 : World) (A As : Option Addr) (c cs : Nat) (l ml : List Lf) (n4 : Nat) (px : Pv) (b14 : Nat) (ox : Pv) (b15 : Nat) (x : Lf) (w : World) : Prop where
 below : Below w0.heap.size w0 w
 words : Words w
 rl : Row w A c l
 rs : Row w As cs ml
 bp : w.heap[n4]? = some (.cells (cV px) 34 (0, 0))
 gp : Gr w px
 bo : w.heap[b14]? = some (.cells (cV ox) 34 (0, 0))
 go : Gp w ox
 bx : w.heap[b15]? = some (.cells (cL x) 32 (0, 0))
theorem Mm2.next {w0 w w' : World} {c cs n4 b14 b15 : Nat} {A As : Option Addr} {l ml : List Lf} {px ox : Pv} {x : Lf} (h : Mm2 w0 A As c cs l ml n4 px b14 ox b15 x w) (hb : Below w.heap.size w w') : Mm2 w0 A As c cs l ml n4 px b14 ox b15 x w' :=
 ⟨below_tr h.below hb h.below.size, h.words.below hb, h.rl.below hb, h.rs.below hb, at_next h.bp hb, h.gp.below hb, at_next h.bo hb, h.go.below hb, at_next h.bx hb⟩
theorem ld_Vv {w : World} {b : Nat} {x : Pv} (hg : w.heap[b]? = some (.cells (cV x) 34 (0, 0))) : (loadVar 34 ⟨b, 0, none⟩).run Tryz.prog w = .ok (.agg (cV x)) w := ld_Pf rfl hg
theorem ld_Qq {w : World} {b : Nat} {QQ : Array Value} (hs : QQ.size = 4) (hg : w.heap[b]? = some (.cells QQ 23 (0, 0))) : (loadVar 23 ⟨b, 0, none⟩).run Tryz.prog w = .ok (.agg QQ) w := load_row hg 23 Tryz.underlying23 rfl (by rw [hs]; kernel_rfl) 0
end Go.Proofs.YtanabbjakacgbaaGreatDoor.Sp
namespace Go.Proofs.YtanabbjakacgbaaGreatDoor.Sp
open Go.RowKit Go.Proofs.YtanabbjakacgbaaGreatDoorW.PrintWords Go.Proofs.YtanabbjakacgbaaGreatDoorW.PrintLast Go.Proofs.YtanabbjakacgbaaGreatDoorW.PrintMore Go.Proofs.YtanabbjakacgbaaGreatDoor.PM Go.Proofs.YtanabbjakacgbaaGreatDoor.Grow
set_option linter.unusedVariables false
set_option linter.unusedSimpArgs false
set_option maxRecDepth 100000
attribute [local go_sem] Oper.semAt_some
def PausedM (p : Prop) : Prop := p
theorem pauseM_ {p : Prop} (h : PausedM p) : p := h
theorem unpauseM_ {p : Prop} (h : p) : PausedM p := h
theorem diffOf_len (l m : List Lf) : (diffOf l m).1.length ≤ l.length + m.length := by
 have h1 := (cmpF_bounds 256 (itemsOf l) (itemsOf m) 0).1
 have h2 := compOf_len (sortOf (cmpF 256 (itemsOf l) (itemsOf m) 0).1)
 have h3 : (sortOf (cmpF 256 (itemsOf l) (itemsOf m) 0).1).length = (cmpF 256 (itemsOf l) (itemsOf m) 0).1.length := by rw [sortOf, List.length_map, List.length_mergeSort, List.length_map]
 rw [itemsOf, itemsOf, List.length_map, List.length_map] at h1
 rw [h3] at h2
 exact Nat.le_trans h2 h1
set_option maxHeartbeats 4000000 in
theorem matches_calls (a b : List (Int × Int)) (ha : Oct a) (hbo : Oct b) (q0 q1 q2 q3 : Int) (hq0 : 0 ≤ q0 ∧ q0 < 256) (hq1 : 0 ≤ q1 ∧ q1 < 256) (hq2 : 0 ≤ q2 ∧ q2 < 256) (hq3 : 0 ≤ q3 ∧ q3 < 256) (A0 Ab : Option Addr) (c0 cb : Nat) (w : World) (hW : Words w) (hr : kQ.C w A0 a.length a) (hc : a.length ≤ c0) (hrb : kQ.C w Ab b.length b) (hcb : b.length ≤ cb) :
  Calls Tryz.prog 3 #[.slice A0 a.length c0, .slice Ab b.length cb, .agg #[.int .u8 q0, .int .u8 q1, .int .u8 q2, .int .u8 q3]] w fun e w' => e = .returned (.bool true) ∧ Below w.heap.size w w' := by
 obtain ⟨QQ, hQQ⟩ : ∃ Q : Array Value, Q = #[.int .u8 q0, .int .u8 q1, .int .u8 q2, .int .u8 q3] := ⟨_, rfl⟩
 obtain ⟨g, hg⟩ : ∃ g, g = w.heap.size := ⟨_, rfl⟩
 obtain ⟨wb, hwb⟩ : ∃ wb, w.alloc (.cells QQ 23) = wb := ⟨_, rfl⟩
 have hb : Below w.heap.size w wb := by rw [← hwb]; exact below_alloc (Below.refl _ _) _
 have hgq : wb.heap[g]? = some (.cells QQ 23 (0, 0)) := by rw [← hwb]; exact h_new hg
 have HB := Aside0.mk (⟨hb, hgq, hW.below hb, Kd.C_below hr hb, hc, Kd.C_below hrb hb, hcb⟩ : _ ∧ _ ∧ _ ∧ _ ∧ _ ∧ _ ∧ _)
 have HWB := Aside0.mk hwb
 have HG := Aside0.mk hg
 have HA := Aside0.mk (And.intro ha hbo)
 have HQQ := Aside0.mk (And.intro hQQ (show QQ.size = 4 by rw [hQQ]; rfl))
 have HQS := Aside0.mk (⟨hq0, hq1, hq2, hq3⟩ : _ ∧ _ ∧ _ ∧ _)
 obtain ⟨l, hl⟩ : ∃ l, madeOf (a.take 8) = l := ⟨_, rfl⟩
 obtain ⟨m, hm⟩ : ∃ l, madeOf (b.take 8) = l := ⟨_, rfl⟩
 have hll : l.length ≤ 8 := by rw [← hl]; have := made_le (a.take 8); rw [List.length_take] at this; omega
 have hml : m.length ≤ 8 := by rw [← hm]; have := made_le (b.take 8); rw [List.length_take] at this; omega
 have hsl : Srt l := by rw [← hl]; exact Srt.made _
 have HL := Aside0.mk (⟨hl, hm, by rw [← hl]; exact made_sm a 8 (by decide), by rw [← hm]; exact made_sm b 8 (by decide), by omega, by omega, hsl⟩ : madeOf (a.take 8) = l ∧ madeOf (b.take 8) = m ∧ SmL l ∧ SmL m ∧ l.length ≤ 5000 ∧ m.length ≤ 5000 ∧ Srt l)
 have HLN := Aside0.mk (⟨by rw [List.length_nil]; omega, by omega, by omega⟩ : ([] : List Lf).length + m.length ≤ 1000000 ∧ m.length + l.length ≤ 1000000 ∧ l.length ≤ 10000)
 obtain ⟨d, hd⟩ : ∃ d, diffOf l m = d := ⟨_, rfl⟩
 have hdl : d.1.length ≤ 10000000 := by rw [← hd]; have := diffOf_len l m; omega
 obtain ⟨r, hr0⟩ : ∃ r, rootOf l = r := ⟨_, rfl⟩
 obtain ⟨k, hk0⟩ : ∃ k, keyB q3 = k := ⟨_, rfl⟩
 have hks : k.size ≤ 100000 := by rw [← hk0]; show 4 ≤ 100000; decide
 obtain ⟨p, hp⟩ : ∃ p, proveOf l k = p := ⟨_, rfl⟩
 have HR0 := Aside0.mk (⟨hr0, hk0, hks, hp, hd, hdl⟩ : rootOf l = r ∧ keyB q3 = k ∧ k.size ≤ 100000 ∧ proveOf l k = p ∧ diffOf l m = d ∧ d.1.length ≤ 10000000)
 obtain ⟨x, hx⟩ : ∃ x : Lf, (⟨k, sB q0⟩ : Lf) = x := ⟨_, rfl⟩
 obtain ⟨P, hP⟩ : ∃ P, putOf l x = P := ⟨_, rfl⟩
 obtain ⟨E, hE⟩ : ∃ D, dropOf l k = D := ⟨_, rfl⟩
 have hPl : P.length ≤ 100 := by rw [← hP]; have := putOf_len' x hsl; omega
 have hEl : E.length ≤ 100 := by rw [← hE, dropOf]; exact Nat.le_trans (List.length_filter_le _ _) (by omega)
 obtain ⟨ml, hml2⟩ : ∃ s, m ++ l = s := ⟨_, rfl⟩
 have hmll : ml.length ≤ 10000 := by rw [← hml2, List.length_append]; omega
 have HML := Aside0.mk hml2
 obtain ⟨vb, hvb⟩ : ∃ q, validB ml = q := ⟨_, rfl⟩
 have HX := Aside0.mk (⟨hx, hP, hE, by omega, by omega, hvb, hmll⟩ : (⟨k, sB q0⟩ : Lf) = x ∧ putOf l x = P ∧ dropOf l k = E ∧ P.length ≤ 10000 ∧ E.length ≤ 10000 ∧ validB ml = vb ∧ ml.length ≤ 10000)
 obtain ⟨Z56, hz56⟩ : ∃ Z, Z = cF (.slice none 0 0) 0 false := ⟨_, rfl⟩
 have HZ56 := Aside0.mk (And.intro (show ∀ w, (zeroValue 38).run Tryz.prog w = .ok (.agg Z56) w by rw [hz56]; exact zero56) (show Z56.size = 3 by rw [hz56]; rfl))
 have hce : ∀ W : World, W.heap[g]? = some (.cells QQ 23 (0, 0)) → W.cell? ⟨g, 0, none⟩ = some (.int .u8 q0) ∧ W.cell? ⟨g, 3, none⟩ = some (.int .u8 q3) := fun W h => by
  rw [hQQ] at h
  exact ⟨(cell_of_row W g 0 _ 23 _ h).trans rfl, (cell_of_row W g 3 _ 23 _ h).trans rfl⟩
 have HCE := Aside0.mk hce
 rw [← hQQ]
 clear hce hgq hb hW hr hc hrb hcb ha hbo hl hm hr0 hk0 hks hp hwb hg hQQ hq0 hq1 hq2 hq3 hd hdl hx hP hE hPl hEl hvb hsl hll hml hz56 hml2 hmll
 go_enter Tryz.func3, Tryz.ntmps3
 go_wp2_with (first
  | (go_at_call 4; rw [HWB.out, ← HG.out]; (with_reducible refine (sanity_calls wb HB.out.2.2.1).mono ?_); rintro e w1 ⟨rfl, hb1⟩; have H1 := Aside0.mk (⟨below_tr HB.out.1 hb1 HB.out.1.size, HB.out.2.2.1.below hb1, Kd.C_below HB.out.2.2.2.1 hb1, Kd.C_below HB.out.2.2.2.2.2.1 hb1, at_next HB.out.2.1 hb1⟩ : _ ∧ _ ∧ _ ∧ _ ∧ _); clear hb1)
  | (go_at_call 5; (with_reducible refine (Made8_calls a HA.out.1 A0 c0 w1 H1.out.2.2.1 HB.out.2.2.2.2.1 l HL.out.1).mono ?_); rintro e w2 ⟨A, c, rfl, hr2, hb2⟩; have H2 := Aside0.mk (⟨below_tr H1.out.1 hb2 H1.out.1.size, H1.out.2.1.below hb2, hr2, Kd.C_below H1.out.2.2.2.1 hb2, at_next H1.out.2.2.2.2 hb2⟩ : _ ∧ _ ∧ _ ∧ _ ∧ _); clear hr2 hb2)
  | (go_at_call 5; (with_reducible refine (Made8_calls b HA.out.2 Ab cb w2 H2.out.2.2.2.1 HB.out.2.2.2.2.2.2 m HL.out.2.1).mono ?_); rintro e w3 ⟨Am, cm, rfl, hr3, hb3⟩; have H3 := Aside0.mk (⟨below_tr H2.out.1 hb3 H2.out.1.size, H2.out.2.1.below hb3, Kd.R_below H2.out.2.2.1 hb3, hr3, at_next H2.out.2.2.2.2 hb3⟩ : _ ∧ _ ∧ _ ∧ _ ∧ _); clear hr3 hb3; have hx0 := (HCE.out w3 H3.out.2.2.2.2).2)
  | (go_at_call 6; (with_reducible refine (Key_calls q3 HQS.out.2.2.2 w3).mono ?_); rw [HR0.out.2.1]; rintro e w4 ⟨rfl, hb4⟩; clear hx0; have H4 := Aside0.mk (⟨below_tr H3.out.1 hb4 H3.out.1.size, H3.out.2.1.below hb4, Kd.R_below H3.out.2.2.1 hb4, Kd.R_below H3.out.2.2.2.1 hb4, at_next H3.out.2.2.2.2 hb4⟩ : _ ∧ _ ∧ _ ∧ _ ∧ _); clear hb4)
  | (go_at_call 7; (refine (Prove4M_calls l k A c w4 H4.out.2.2.1 HL.out.2.2.1 HR0.out.2.2.1 p HR0.out.2.2.2.1).mono ?_); rintro e w5 ⟨px, hpx, rfl, hp5, hb5⟩; have HPX := Aside0.mk hpx; have H5 := Aside0.mk (⟨below_tr H4.out.1 hb5 H4.out.1.size, H4.out.2.1.below hb5, Row.below H4.out.2.2.1 hb5, Row.below H4.out.2.2.2.1 hb5, at_next H4.out.2.2.2.2 hb5, hp5⟩ : Below w.heap.size w w5 ∧ Words w5 ∧ Row w5 A c l ∧ Row w5 Am cm m ∧ w5.heap[g]? = some (.cells QQ 23 (0, 0)) ∧ Gr w5 px); clear hb5 hp5 hpx; obtain ⟨n4, hn4⟩ : ∃ n, n = w5.heap.size := ⟨_, rfl⟩; obtain ⟨wx, hwx⟩ : ∃ W, w5.alloc (.cells (cP (.slice none 0 0) 0 zL) 34) = W := ⟨_, rfl⟩; obtain ⟨wy, hwy⟩ : ∃ W, wx.setRow n4 (cV px) = W := ⟨_, rfl⟩; have HT1 := Aside0.mk (box_one hn4 hwx hwy); have HWX := Aside0.mk hwx; have HWY := Aside0.mk hwy; have HN4 := Aside0.mk hn4; clear hwx hwy hn4)
  | ((with_reducible refine gate_dst (N := 11) rfl ?_); (refine wpList_allocz rfl 34 (cP (.slice none 0 0) 0 zL) rfl zero36 ?_); rw [HWX.out, ← HN4.out])
  | ((with_reducible refine gate_store (t := 34) (p := 11) rfl ?_); (refine wpList_store_row rfl 34 (.tmp 11) (.tmp 27) rfl n4 (cV px) rfl rfl 34 (cP (.slice none 0 0) 0 zL) HT1.out.1 (by rw [cV_size]; kernel_rfl) (by rw [cV_size, cP_size]) (all_one (cV_one px)) ?_); (refine at_world (w' := wy) HWY.out ?_); have HY : Aside0 (Mm1 w g QQ A Am c cm l m n4 px wy) := Aside0.mk ⟨below_tr H5.out.1 HT1.out.2.2 H5.out.1.size, H5.out.2.1.below HT1.out.2.2, at_next H5.out.2.2.2.2.1 HT1.out.2.2, H5.out.2.2.1.below HT1.out.2.2, H5.out.2.2.2.1.below HT1.out.2.2, HT1.out.2.1, H5.out.2.2.2.2.2.below HT1.out.2.2⟩)
  | (go_at_call 8; (refine (diffR_calls l m A Am c cm wy HY.out.words HY.out.rl HY.out.rm HL.out.2.2.1 HL.out.2.2.2.1 d HR0.out.2.2.2.2.1).mono ?_); rintro e w6 ⟨A4, c4, D4, hD4, rfl, hr6, hb6⟩; have HD4 := Aside0.mk (⟨hD4, hr6, HY.out.next hb6⟩ : _ ∧ _ ∧ _); clear hD4 hr6 hb6)
  | (go_at_call 9; (refine (Diff4X_calls l m A Am c cm w6 HD4.out.2.2.rl HD4.out.2.2.rm HL.out.2.2.1 HL.out.2.2.2.1 HL.out.2.2.2.2.1 HL.out.2.2.2.2.2.1 d HR0.out.2.2.2.2.1).mono ?_); rintro e w7 ⟨A5, c5, hid, rfl, hr7, hb7⟩; obtain ⟨D5, hD5⟩ : ∃ D, D = cF (.slice A5 d.1.length c5) (d.2 : Int) hid := ⟨_, rfl⟩; have HD5 := Aside0.mk (⟨hD5, Kd.R_below HD4.out.2.1 hb7, hr7, HD4.out.2.2.next hb7⟩ : _ ∧ _ ∧ _ ∧ _); rw [← hD5]; clear hD5 hr7 hb7; obtain ⟨n5, hn5⟩ : ∃ n, n = w7.heap.size := ⟨_, rfl⟩; obtain ⟨ux, hux⟩ : ∃ wx, (w7.alloc (.cells Z56 38)).alloc (.cells Z56 38) = wx := ⟨_, rfl⟩; obtain ⟨uy, huy⟩ : ∃ wy, (ux.setRow n5 D4).setRow (n5 + 1) D5 = wy := ⟨_, rfl⟩; have HU5 := Aside0.mk (two_boxes hn5 hux huy); have HUX := Aside0.mk hux; have HUY := Aside0.mk huy; have HN5 := Aside0.mk hn5; clear hux huy hn5)
  | ((with_reducible refine gate_dst (N := 12) rfl ?_); (refine wpList_allocz rfl 38 Z56 rfl HZ56.out.1 ?_))
  | ((with_reducible refine gate_dst (N := 13) rfl ?_); (refine wpList_allocz rfl 38 Z56 rfl HZ56.out.1 ?_); rw [size_alloc, ← HN5.out, HUX.out])
  | ((with_reducible refine gate_store (t := 38) (p := 12) rfl ?_); (refine wpList_store_row rfl 38 (.tmp 12) (.tmp 30) rfl n5 D4 rfl rfl 38 Z56 HU5.out.1 (by rw [HD4.out.1]; kernel_rfl) (by rw [HD4.out.1, HZ56.out.2]; rfl) (by rw [HD4.out.1]; exact cF_one rfl) ?_))
  | ((with_reducible refine gate_store (t := 38) (p := 13) rfl ?_); (refine wpList_store_row rfl 38 (.tmp 13) (.tmp 33) rfl (n5 + 1) D5 rfl rfl 38 Z56 HU5.out.2.1 (by rw [HD5.out.1]; kernel_rfl) (by rw [HD5.out.1, HZ56.out.2]; rfl) (by rw [HD5.out.1]; exact cF_one rfl) ?_); (refine at_world (w' := uy) HUY.out ?_); refine pauseM_ ?_))
 have hst : Mm1 w g QQ A Am c cm l m n4 px uy := HD5.out.2.2.2.next HU5.out.2.2.2.2
 have hk4 := Kd.R_below HD5.out.2.1 HU5.out.2.2.2.2
 have hk5 := Kd.R_below HD5.out.2.2.1 HU5.out.2.2.2.2
 have HKS := Aside0.mk (And.intro hk4 hk5)
 have hcc : ∀ W, Below uy.heap.size uy W → W.cell? ⟨n5, 0, none⟩ = some (.slice A4 d.1.length c4) ∧ W.cell? ⟨n5, 1, none⟩ = some (.int .i64 (d.2 : Int)) ∧ W.cell? ⟨n5 + 1, 0, none⟩ = some (.slice A5 d.1.length c5) ∧ W.cell? ⟨n5 + 1, 1, none⟩ = some (.int .i64 (d.2 : Int)) := fun W hb =>
  ⟨cell_F0 HD4.out.1 (at_next HU5.out.2.2.1 hb), cell_F1 HD4.out.1 (at_next HU5.out.2.2.1 hb), cell_F0 HD5.out.1 (at_next HU5.out.2.2.2.1 hb), cell_F1 HD5.out.1 (at_next HU5.out.2.2.2.1 hb)⟩
 have HCC := Aside0.mk hcc
 have HST := Aside0.mk hst
 clear hcc hst hk4 hk5 H1 H2 H3 H4 H5 HT1 HWX HWY HN4 HY HD4 HD5 HU5 HUX HUY HN5 HB HWB HG
 refine unpauseM_ ?_
 go_wp2
 refine start_ (n := 28) (S := fun w' => Below uy.heap.size uy w') (ds := []) #[false, false, false, false, false, false, false, false, false, false, false, false, false, false, false, false, false, false, false, false, false, false, false, false, false, false, false, false] (by as_aux_lemma => kernel_rfl) rfl rfl (Below.refl _ _).drew (fun hHeld => ?_)
 refine pure_ (i := 0) (N := some 34) (v := ?_) (a' := ?_) #[true, false, false, false, false, false, false, false, false, false, false, false, false, false, false, false, false, false, false, false, false, false, false, false, false, false, false, false] rfl rfl (by as_aux_lemma => kernel_rfl) (fun _ _ _ h => h) (Or.inl ⟨by rfl, ?_⟩) ?_ ?_
 rotate_left
 ·intro w'
  go_simp
  with_reducible rfl
 rotate_left
 ·simp only [Act.put, lZa, lZb, lZc, i64_w, i32_w]
  rfl
 refine pure_ (i := 2) (N := some 36) (v := ?_) (a' := ?_) #[true, false, true, false, false, false, false, false, false, false, false, false, false, false, false, false, false, false, false, false, false, false, false, false, false, false, false, false] rfl rfl (by as_aux_lemma => kernel_rfl) (fun _ _ _ h => h) (Or.inl ⟨by rfl, ?_⟩) ?_ ?_
 rotate_left
 ·intro w'
  go_simp
  with_reducible rfl
 rotate_left
 ·simp only [Act.put, lZa, lZb, lZc, i64_w, i32_w]
  rfl
 refine one_ (i := 1) (N := some 35) #[true, true, true, false, false, false, false, false, false, false, false, false, false, false, false, false, false, false, false, false, false, false, false, false, false, false, false, false] rfl rfl (by as_aux_lemma => kernel_rfl) (by decide) (fun K hK => ?_)
 refine goes_ Tryz.func10 (by kernel_rfl) rfl #[.slice A l.length c] (by rfl) rfl rfl (by simp only [List.map_toArray, List.map_cons, List.map_nil]; rfl) ?_
 refine (RootR_calls l A c _ (HST.out.next hHeld).words (HST.out.next hHeld).rl HL.out.2.2.1 r HR0.out.1).mono ?_
 rintro e u1 ⟨rfl, hb1⟩
 refine ⟨_, rfl, ?_⟩
 refine hK.out _ _ (below_tr hHeld hb1 hHeld.size) (fun hHeld => ?_)
 clear hK K
 refine norm_ (a' := ?_) ?_ ?_
 rotate_left
 ·show Act.put _ (some 35) _ = _
  simp only [Act.put, lZa, lZb, lZc, i64_w, i32_w]
  rfl
 refine one_ (i := 3) (N := some 37) #[true, true, true, true, false, false, false, false, false, false, false, false, false, false, false, false, false, false, false, false, false, false, false, false, false, false, false, false] rfl rfl (by as_aux_lemma => kernel_rfl) (by decide) (fun K hK => ?_)
 refine goes_ Tryz.func11 (by kernel_rfl) rfl #[.slice A l.length c] (by rfl) rfl rfl (by simp only [List.map_toArray, List.map_cons, List.map_nil]; rfl) ?_
 refine (Root4R_calls l A c _ (HST.out.next hHeld).rl HL.out.2.2.1 r HR0.out.1).mono ?_
 rintro e u2 ⟨rfl, hb2⟩
 refine ⟨_, rfl, ?_⟩
 refine hK.out _ _ (below_tr hHeld hb2 hHeld.size) (fun hHeld => ?_)
 clear hK K
 refine norm_ (a' := ?_) ?_ ?_
 rotate_left
 ·show Act.put _ (some 37) _ = _
  simp only [Act.put, lZa, lZb, lZc, i64_w, i32_w]
  rfl
 refine pure_ (i := 4) (N := some 38) (v := .bool false) (a' := ?_) #[true, true, true, true, true, false, false, false, false, false, false, false, false, false, false, false, false, false, false, false, false, false, false, false, false, false, false, false] rfl rfl (by as_aux_lemma => kernel_rfl) (fun _ _ _ h => h) (Or.inl ⟨by rfl, fun w' => yield_neq _ _ _ _ rfl _ _ rfl rfl gt_S (eqS_r w' r)⟩) ?_ ?_
 rotate_left
 ·simp only [Act.put, lZa, lZb, lZc, i64_w, i32_w]
  rfl
 refine pure_ (i := 5) (N := some 39) (v := ?_) (a' := ?_) #[true, true, true, true, true, true, false, false, false, false, false, false, false, false, false, false, false, false, false, false, false, false, false, false, false, false, false, false] rfl rfl (by as_aux_lemma => kernel_rfl) (fun _ _ _ h => h) (Or.inl ⟨by rfl, ?_⟩) ?_ ?_
 rotate_left
 ·intro w'
  go_simp
  with_reducible rfl
 rotate_left
 ·simp only [Act.put, lZa, lZb, lZc, i64_w, i32_w]
  rfl
 refine pure_ (i := 6) (N := some 40) (v := ?_) (a' := ?_) #[true, true, true, true, true, true, true, false, false, false, false, false, false, false, false, false, false, false, false, false, false, false, false, false, false, false, false, false] rfl rfl (by as_aux_lemma => kernel_rfl) (fun _ _ _ h => h) (Or.inl ⟨by rfl, ?_⟩) ?_ ?_
 rotate_left
 ·intro w'
  go_simp
  with_reducible rfl
 rotate_left
 ·simp only [Act.put, lZa, lZb, lZc, i64_w, i32_w]
  rfl
 refine pure_ (i := 7) (N := some 41) (v := ?_) (a' := ?_) #[true, true, true, true, true, true, true, true, false, false, false, false, false, false, false, false, false, false, false, false, false, false, false, false, false, false, false, false] rfl rfl (by as_aux_lemma => kernel_rfl) (fun _ _ _ h => h) (Or.inl ⟨by rfl, ?_⟩) ?_ ?_
 rotate_left
 ·intro w'
  go_simp
  with_reducible rfl
 rotate_left
 ·simp only [Act.put, lZa, lZb, lZc, i64_w, i32_w]
  rfl
 refine takeD_ (i := 9) (N := some 43) (v := .agg (cV px)) (a' := ?_) #[true, true, true, true, true, true, true, true, false, true, false, false, false, false, false, false, false, false, false, false, false, false, false, false, false, false, false, false] rfl rfl (by as_aux_lemma => kernel_rfl) (fun _ _ _ h => h) (Or.inl ⟨by rfl, fun w' hS => yield_load _ _ rfl _ rfl (ld_Vv (HST.out.next hS).bp)⟩) hHeld ?_ ?_
 rotate_left
 ·simp only [Act.put, lZa, lZb, lZc, i64_w, i32_w]
  rfl
 refine one_ (i := 8) (N := some 42) #[true, true, true, true, true, true, true, true, true, true, false, false, false, false, false, false, false, false, false, false, false, false, false, false, false, false, false, false] rfl rfl (by as_aux_lemma => kernel_rfl) (by decide) (fun K hK => ?_)
 refine goes_ Tryz.func13 (by kernel_rfl) rfl #[.slice A l.length c, .string k] (by rfl) rfl rfl (by simp only [List.map_toArray, List.map_cons, List.map_nil]; rfl) ?_
 refine (ProveM_calls l k A c _ (HST.out.next hHeld).words (HST.out.next hHeld).rl HL.out.2.2.1 HR0.out.2.2.1 p HR0.out.2.2.2.1).mono ?_
 rintro e u3 ⟨qx, hqx, rfl, hgq, hb3⟩
 refine ⟨_, rfl, ?_⟩
 have HQX := Aside0.mk (And.intro hqx hgq)
 clear hqx hgq
 refine hK.out _ _ (below_tr hHeld hb3 hHeld.size) (fun hHeld => ?_)
 clear hK K
 refine norm_ (a' := ?_) ?_ ?_
 rotate_left
 ·show Act.put _ (some 42) _ = _
  simp only [Act.put, lZa, lZb, lZc, i64_w, i32_w]
  rfl
 refine one_ (i := 10) (N := some 44) #[true, true, true, true, true, true, true, true, true, true, true, false, false, false, false, false, false, false, false, false, false, false, false, false, false, false, false, false] rfl rfl (by as_aux_lemma => kernel_rfl) (by decide) (fun K hK => ?_)
 refine goes_ Tryz.func12 (by kernel_rfl) rfl #[.agg (cV qx), .agg (cV px)] (by rfl) rfl rfl (by simp only [List.map_toArray, List.map_cons, List.map_nil]; rfl) ?_
 refine (samePv_calls qx px (HQX.out.1.trans HPX.out.symm) _ HQX.out.2 (HST.out.next hHeld).gp).mono ?_
 rintro e u4 ⟨rfl, hb4⟩
 refine ⟨_, rfl, ?_⟩
 refine hK.out _ _ (below_tr hHeld hb4 hHeld.size) (fun hHeld => ?_)
 clear hK K
 refine norm_ (a' := ?_) ?_ ?_
 rotate_left
 ·show Act.put _ (some 44) _ = _
  simp only [Act.put, lZa, lZb, lZc, i64_w, i32_w]
  rfl
 refine pure_ (i := 11) (N := some 45) (v := ?_) (a' := ?_) #[true, true, true, true, true, true, true, true, true, true, true, true, false, false, false, false, false, false, false, false, false, false, false, false, false, false, false, false] rfl rfl (by as_aux_lemma => kernel_rfl) (fun _ _ _ h => h) (Or.inl ⟨by rfl, ?_⟩) ?_ ?_
 rotate_left
 ·intro w'
  go_simp
  with_reducible rfl
 rotate_left
 ·simp only [Act.put, lZa, lZb, lZc, i64_w, i32_w]
  rfl
 refine pure_ (i := 12) (N := some 46) (v := ?_) (a' := ?_) #[true, true, true, true, true, true, true, true, true, true, true, true, true, false, false, false, false, false, false, false, false, false, false, false, false, false, false, false] rfl rfl (by as_aux_lemma => kernel_rfl) (fun _ _ _ h => h) (Or.inl ⟨by rfl, ?_⟩) ?_ ?_
 rotate_left
 ·intro w'
  go_simp
  with_reducible rfl
 rotate_left
 ·simp only [Act.put, lZa, lZb, lZc, i64_w, i32_w]
  rfl
 refine pure_ (i := 13) (N := some 47) (v := ?_) (a' := ?_) #[true, true, true, true, true, true, true, true, true, true, true, true, true, true, false, false, false, false, false, false, false, false, false, false, false, false, false, false] rfl rfl (by as_aux_lemma => kernel_rfl) (fun _ _ _ h => h) (Or.inl ⟨by rfl, ?_⟩) ?_ ?_
 rotate_left
 ·intro w'
  go_simp
  with_reducible rfl
 rotate_left
 ·simp only [Act.put, lZa, lZb, lZc, i64_w, i32_w]
  rfl
 refine pure_ (i := 14) (N := some 48) (v := ?_) (a' := ?_) #[true, true, true, true, true, true, true, true, true, true, true, true, true, true, true, false, false, false, false, false, false, false, false, false, false, false, false, false] rfl rfl (by as_aux_lemma => kernel_rfl) (fun _ _ _ h => h) (Or.inl ⟨by rfl, ?_⟩) ?_ ?_
 rotate_left
 ·intro w'
  go_simp
  with_reducible rfl
 rotate_left
 ·simp only [Act.put, lZa, lZb, lZc, i64_w, i32_w]
  rfl
 refine takeD_ (i := 15) (N := some 49) (v := ?_) (a' := ?_) #[true, true, true, true, true, true, true, true, true, true, true, true, true, true, true, true, false, false, false, false, false, false, false, false, false, false, false, false] rfl rfl (by as_aux_lemma => kernel_rfl) (fun _ _ _ h => h) (Or.inl ⟨by rfl, ?_⟩) hHeld ?_ ?_
 rotate_left
 ·intro w' hS
  have hx := (HCC.out w' hS).1
  go_simp
  with_reducible rfl
 rotate_left
 ·simp only [Act.put, lZa, lZb, lZc, i64_w, i32_w]
  rfl
 refine pure_ (i := 16) (N := some 50) (v := ?_) (a' := ?_) #[true, true, true, true, true, true, true, true, true, true, true, true, true, true, true, true, true, false, false, false, false, false, false, false, false, false, false, false] rfl rfl (by as_aux_lemma => kernel_rfl) (fun _ _ _ h => h) (Or.inl ⟨by rfl, ?_⟩) ?_ ?_
 rotate_left
 ·intro w'
  go_simp
  with_reducible rfl
 rotate_left
 ·simp only [Act.put, lZa, lZb, lZc, i64_w, i32_w]
  rfl
 refine takeD_ (i := 17) (N := some 51) (v := ?_) (a' := ?_) #[true, true, true, true, true, true, true, true, true, true, true, true, true, true, true, true, true, true, false, false, false, false, false, false, false, false, false, false] rfl rfl (by as_aux_lemma => kernel_rfl) (fun _ _ _ h => h) (Or.inl ⟨by rfl, ?_⟩) hHeld ?_ ?_
 rotate_left
 ·intro w' hS
  have hx := (HCC.out w' hS).2.2.1
  go_simp
  with_reducible rfl
 rotate_left
 ·simp only [Act.put, lZa, lZb, lZc, i64_w, i32_w]
  rfl
 refine one_ (i := 18) (N := some 52) #[true, true, true, true, true, true, true, true, true, true, true, true, true, true, true, true, true, true, true, false, false, false, false, false, false, false, false, false] rfl rfl (by as_aux_lemma => kernel_rfl) (by decide) (fun K hK => ?_)
 refine goes_ Tryz.func14 (by kernel_rfl) rfl #[.slice A4 d.1.length c4, .slice A5 d.1.length c5] (by rfl) rfl rfl (by simp only [List.map_toArray, List.map_cons, List.map_nil]; rfl) ?_
 refine (SameK_calls d.1 A4 A5 c4 c5 _ (Kd.R_below HKS.out.1 hHeld) (Kd.R_below HKS.out.2 hHeld) HR0.out.2.2.2.2.2).mono ?_
 rintro e u5 ⟨rfl, hb5⟩
 refine ⟨_, rfl, ?_⟩
 refine hK.out _ _ (below_tr hHeld hb5 hHeld.size) (fun hHeld => ?_)
 clear hK K
 refine norm_ (a' := ?_) ?_ ?_
 rotate_left
 ·show Act.put _ (some 52) _ = _
  simp only [Act.put, lZa, lZb, lZc, i64_w, i32_w]
  rfl
 refine pure_ (i := 19) (N := some 53) (v := ?_) (a' := ?_) #[true, true, true, true, true, true, true, true, true, true, true, true, true, true, true, true, true, true, true, true, false, false, false, false, false, false, false, false] rfl rfl (by as_aux_lemma => kernel_rfl) (fun _ _ _ h => h) (Or.inl ⟨by rfl, ?_⟩) ?_ ?_
 rotate_left
 ·intro w'
  go_simp
  with_reducible rfl
 rotate_left
 ·simp only [Act.put, lZa, lZb, lZc, i64_w, i32_w]
  rfl
 refine pure_ (i := 20) (N := some 54) (v := ?_) (a' := ?_) #[true, true, true, true, true, true, true, true, true, true, true, true, true, true, true, true, true, true, true, true, true, false, false, false, false, false, false, false] rfl rfl (by as_aux_lemma => kernel_rfl) (fun _ _ _ h => h) (Or.inl ⟨by rfl, ?_⟩) ?_ ?_
 rotate_left
 ·intro w'
  go_simp
  with_reducible rfl
 rotate_left
 ·simp only [Act.put, lZa, lZb, lZc, i64_w, i32_w]
  rfl
 refine pure_ (i := 21) (N := some 55) (v := ?_) (a' := ?_) #[true, true, true, true, true, true, true, true, true, true, true, true, true, true, true, true, true, true, true, true, true, true, false, false, false, false, false, false] rfl rfl (by as_aux_lemma => kernel_rfl) (fun _ _ _ h => h) (Or.inl ⟨by rfl, ?_⟩) ?_ ?_
 rotate_left
 ·intro w'
  go_simp
  with_reducible rfl
 rotate_left
 ·simp only [Act.put, lZa, lZb, lZc, i64_w, i32_w]
  rfl
 refine pure_ (i := 22) (N := some 56) (v := ?_) (a' := ?_) #[true, true, true, true, true, true, true, true, true, true, true, true, true, true, true, true, true, true, true, true, true, true, true, false, false, false, false, false] rfl rfl (by as_aux_lemma => kernel_rfl) (fun _ _ _ h => h) (Or.inl ⟨by rfl, ?_⟩) ?_ ?_
 rotate_left
 ·intro w'
  go_simp
  with_reducible rfl
 rotate_left
 ·simp only [Act.put, lZa, lZb, lZc, i64_w, i32_w]
  rfl
 refine takeD_ (i := 23) (N := some 57) (v := ?_) (a' := ?_) #[true, true, true, true, true, true, true, true, true, true, true, true, true, true, true, true, true, true, true, true, true, true, true, true, false, false, false, false] rfl rfl (by as_aux_lemma => kernel_rfl) (fun _ _ _ h => h) (Or.inl ⟨by rfl, ?_⟩) hHeld ?_ ?_
 rotate_left
 ·intro w' hS
  have hx := (HCC.out w' hS).2.1
  go_simp
  with_reducible rfl
 rotate_left
 ·simp only [Act.put, lZa, lZb, lZc, i64_w, i32_w]
  rfl
 refine pure_ (i := 24) (N := some 58) (v := ?_) (a' := ?_) #[true, true, true, true, true, true, true, true, true, true, true, true, true, true, true, true, true, true, true, true, true, true, true, true, true, false, false, false] rfl rfl (by as_aux_lemma => kernel_rfl) (fun _ _ _ h => h) (Or.inl ⟨by rfl, ?_⟩) ?_ ?_
 rotate_left
 ·intro w'
  go_simp
  with_reducible rfl
 rotate_left
 ·simp only [Act.put, lZa, lZb, lZc, i64_w, i32_w]
  rfl
 refine takeD_ (i := 25) (N := some 59) (v := ?_) (a' := ?_) #[true, true, true, true, true, true, true, true, true, true, true, true, true, true, true, true, true, true, true, true, true, true, true, true, true, true, false, false] rfl rfl (by as_aux_lemma => kernel_rfl) (fun _ _ _ h => h) (Or.inl ⟨by rfl, ?_⟩) hHeld ?_ ?_
 rotate_left
 ·intro w' hS
  have hx := (HCC.out w' hS).2.2.2
  go_simp
  with_reducible rfl
 rotate_left
 ·simp only [Act.put, lZa, lZb, lZc, i64_w, i32_w]
  rfl
 refine pure_ (i := 26) (N := some 60) (v := ?_) (a' := ?_) #[true, true, true, true, true, true, true, true, true, true, true, true, true, true, true, true, true, true, true, true, true, true, true, true, true, true, true, false] rfl rfl (by as_aux_lemma => kernel_rfl) (fun _ _ _ h => h) (Or.inl ⟨by rfl, ?_⟩) ?_ ?_
 rotate_left
 ·intro w'
  go_simp
  with_reducible rfl
 rotate_left
 ·simp only [Act.put, lZa, lZb, lZc, i64_w, i32_w]
  rfl
 refine pure_ (i := 27) (N := some 61) (v := ?_) (a' := ?_) #[true, true, true, true, true, true, true, true, true, true, true, true, true, true, true, true, true, true, true, true, true, true, true, true, true, true, true, true] rfl rfl (by as_aux_lemma => kernel_rfl) (fun _ _ _ h => h) (Or.inl ⟨by rfl, ?_⟩) ?_ ?_
 rotate_left
 ·intro w'
  go_simp
  with_reducible rfl
 rotate_left
 ·simp only [Act.put, lZa, lZb, lZc, i64_w, i32_w]
  rfl
 refine done_ (by kernel_rfl) ?_
 have HS6 := Aside0.mk (HST.out.next hHeld)
 clear hHeld HST HCC HKS HQX
 go_wp2_with (first
  | ((with_reducible refine gate_dst (N := 62) rfl ?_); (refine wpList_loadv rfl 34 _ rfl _ rfl _ (ld_Vv HS6.out.bp) ?_))
  | ((with_reducible refine gate_dst (N := 63) rfl ?_); (refine wpList_loadv rfl 23 _ rfl _ rfl _ (ld_Qq HQQ.out.2 HS6.out.bq) ?_))
  | (go_at_call 15; (refine (oddV_calls px.q q0 q1 q2 q3 HQS.out.1 HQS.out.2.1 HQS.out.2.2.1 HQS.out.2.2.2 px.A px.c _ QQ rfl HQQ.out.1 u5 HS6.out.gp.C HS6.out.gp.len HS6.out.gp.key).mono ?_); rintro e v1 ⟨ox, rfl, hgo, hb⟩; have V1 := Aside0.mk (And.intro (HS6.out.next hb) hgo); clear hgo hb; obtain ⟨b14, hb14⟩ : ∃ n, n = v1.heap.size := ⟨_, rfl⟩; obtain ⟨vx, hvx⟩ : ∃ W, v1.alloc (.cells (cP (.slice none 0 0) 0 zL) 34) = W := ⟨_, rfl⟩; obtain ⟨v2, hv2⟩ : ∃ W, vx.setRow b14 (cV ox) = W := ⟨_, rfl⟩; have HT1 := Aside0.mk (box_one hb14 hvx hv2); have HVX := Aside0.mk hvx; have HV2 := Aside0.mk hv2; have HN4 := Aside0.mk hb14; clear hvx hv2 hb14)
  | ((with_reducible refine gate_dst (N := 14) rfl ?_); (refine wpList_allocz rfl 34 (cP (.slice none 0 0) 0 zL) rfl zero36 ?_); rw [HVX.out, ← HN4.out])
  | ((with_reducible refine gate_store (t := 34) (p := 14) rfl ?_); (refine wpList_store_row rfl 34 (.tmp 14) (.tmp 64) rfl b14 (cV ox) rfl rfl 34 (cP (.slice none 0 0) 0 zL) HT1.out.1 (by rw [cV_size]; kernel_rfl) (by rw [cV_size, cP_size]) (all_one (cV_one ox)) ?_); (refine at_world (w' := v2) HV2.out ?_); have V2 := Aside0.mk (⟨V1.out.1.next HT1.out.2.2, V1.out.2.below HT1.out.2.2, HT1.out.2.1⟩ : Mm1 w g QQ A Am c cm l m n4 px v2 ∧ Gp v2 ox ∧ v2.heap[b14]? = some (.cells (cV ox) 34 (0, 0))); have hx0 := (HCE.out v2 V2.out.1.bq).1)
  | ((with_reducible refine gate_dst (N := 68) rfl ?_); (refine bld_S1 rfl _ rfl q0 HQS.out.1 rfl ?_))
  | ((with_reducible refine gate_dst (N := 69) rfl ?_); (refine bld_L rfl _ _ rfl k (sB q0) rfl rfl ?_); rw [HX.out.1]; clear hx0; obtain ⟨b15, hb15⟩ : ∃ n, n = v2.heap.size := ⟨_, rfl⟩; obtain ⟨vy, hvy⟩ : ∃ W, v2.alloc (.cells (cL zL) 32) = W := ⟨_, rfl⟩; obtain ⟨v3, hv3⟩ : ∃ W, vy.setRow b15 (cL x) = W := ⟨_, rfl⟩; have HT2 := Aside0.mk (box_one hb15 hvy hv3); have HVY := Aside0.mk hvy; have HV3 := Aside0.mk hv3; have HN5 := Aside0.mk hb15; clear hvy hv3 hb15)
  | ((with_reducible refine gate_dst (N := 15) rfl ?_); (refine wpList_allocz rfl 32 (cL zL) rfl zero33 ?_); rw [HVY.out, ← HN5.out])
  | ((with_reducible refine gate_store (t := 32) (p := 15) rfl ?_); (refine wpList_store_row rfl 32 (.tmp 15) (.tmp 69) rfl b15 (cL x) rfl rfl 32 (cL zL) HT2.out.1 (by rw [cL_size]; kernel_rfl) (by rw [cL_size, cL_size]) (all_one (cL_one _)) ?_); (refine at_world (w' := v3) HV3.out ?_); have V3 := Aside0.mk (⟨V2.out.1.next HT2.out.2.2, V2.out.2.1.below HT2.out.2.2, at_next V2.out.2.2 HT2.out.2.2, HT2.out.2.1⟩ : Mm1 w g QQ A Am c cm l m n4 px v3 ∧ Gp v3 ox ∧ v3.heap[b14]? = some (.cells (cV ox) 34 (0, 0)) ∧ v3.heap[b15]? = some (.cells (cL x) 32 (0, 0))))
  | ((with_reducible refine gate_dst (N := 70) rfl ?_); refine bs0_L (wa := v3) rfl rfl rfl v3.heap.size (Below.refl _ _) (Nat.le_refl _) ?_; intro s0 v4 hr0 hb0 hs0; have V4 := Aside0.mk (And.intro hr0 hb0); clear hr0 hb0 hs0)
  | ((with_reducible refine gate_dst (N := 72) rfl ?_); refine app_Lall (wa := v3) rfl (.tmp 70) (.tmp 71) rfl s0 [] m Am cm rfl rfl v3.heap.size V4.out.1 (V3.out.1.rm.below V4.out.2).C V4.out.2 V4.out.2.size HLN.out.1 ?_; intro s1 v5 hr5 hb5 _; rw [List.nil_append] at hr5; have V5 := Aside0.mk (And.intro hr5 hb5); clear hr5 hb5)
  | ((with_reducible refine gate_dst (N := 75) rfl ?_); refine app_Lall (wa := v3) rfl (.tmp 73) (.tmp 74) rfl s1 m l A c rfl rfl v3.heap.size V5.out.1 (V3.out.1.rl.below V5.out.2).C V5.out.2 V5.out.2.size HLN.out.2.1 ?_; intro s2 v6 hr6 hb6 _; have V6 := Aside0.mk (And.intro hr6 hb6); clear hr6 hb6; refine pauseM_ ?_))
 have V6 := Aside0.mk (show kL.R 32 v6 v3.heap.size (fun _ => True) s2 ml ∧ Below v3.heap.size v3 v6 by rw [← HML.out]; exact V6.out)
 obtain ⟨As, cs, es⟩ := Kd.R_slice V6.out.1
 subst es
 have hm2 : Mm2 w A As c cs l ml n4 px b14 ox b15 x v6 := ⟨(V3.out.1.next V6.out.2).below, (V3.out.1.next V6.out.2).words, (V3.out.1.next V6.out.2).rl, Kd.R_lower V6.out.1 (Nat.zero_le _), (V3.out.1.next V6.out.2).bp, (V3.out.1.next V6.out.2).gp, at_next V3.out.2.2.1 V6.out.2, V3.out.2.1.below V6.out.2, at_next V3.out.2.2.2 V6.out.2⟩
 have HM := Aside0.mk hm2
 clear hm2 V1 V2 V3 V4 V5 V6 HT1 HT2 HVX HV2 HVY HV3 HN4 HN5 HS6
 obtain ⟨ck, hck⟩ : ∃ q, ckOf r k px.q.p px.q.e px.q.l = q := ⟨_, rfl⟩
 obtain ⟨co, hco⟩ : ∃ q, ckOf r k ox.q.p ox.q.e ox.q.l = q := ⟨_, rfl⟩
 have HCK := Aside0.mk (And.intro hck hco)
 clear hck hco
 refine unpauseM_ ?_
 go_wp2
 refine start_ (n := 53) (S := fun w' => Below v6.heap.size v6 w') (ds := []) #[false, false, false, false, false, false, false, false, false, false, false, false, false, false, false, false, false, false, false, false, false, false, false, false, false, false, false, false, false, false, false, false, false, false, false, false, false, false, false, false, false, false, false, false, false, false, false, false, false, false, false, false, false] (by as_aux_lemma => kernel_rfl) rfl rfl (Below.refl _ _).drew (fun hHeld => ?_)
 refine pure_ (i := 0) (N := some 76) (v := ?_) (a' := ?_) #[true, false, false, false, false, false, false, false, false, false, false, false, false, false, false, false, false, false, false, false, false, false, false, false, false, false, false, false, false, false, false, false, false, false, false, false, false, false, false, false, false, false, false, false, false, false, false, false, false, false, false, false, false] rfl rfl (by as_aux_lemma => kernel_rfl) (fun _ _ _ h => h) (Or.inl ⟨by rfl, ?_⟩) ?_ ?_
 rotate_left
 ·intro w'
  go_simp
  with_reducible rfl
 rotate_left
 ·simp only [Act.put, lZa, lZb, lZc, i64_w, i32_w]
  rfl
 refine pure_ (i := 2) (N := some 78) (v := ?_) (a' := ?_) #[true, false, true, false, false, false, false, false, false, false, false, false, false, false, false, false, false, false, false, false, false, false, false, false, false, false, false, false, false, false, false, false, false, false, false, false, false, false, false, false, false, false, false, false, false, false, false, false, false, false, false, false, false] rfl rfl (by as_aux_lemma => kernel_rfl) (fun _ _ _ h => h) (Or.inl ⟨by rfl, ?_⟩) ?_ ?_
 rotate_left
 ·intro w'
  go_simp
  with_reducible rfl
 rotate_left
 ·simp only [Act.put, lZa, lZb, lZc, i64_w, i32_w]
  rfl
 refine pure_ (i := 5) (N := some 81) (v := ?_) (a' := ?_) #[true, false, true, false, false, true, false, false, false, false, false, false, false, false, false, false, false, false, false, false, false, false, false, false, false, false, false, false, false, false, false, false, false, false, false, false, false, false, false, false, false, false, false, false, false, false, false, false, false, false, false, false, false] rfl rfl (by as_aux_lemma => kernel_rfl) (fun _ _ _ h => h) (Or.inl ⟨by rfl, ?_⟩) ?_ ?_
 rotate_left
 ·intro w'
  go_simp
  with_reducible rfl
 rotate_left
 ·simp only [Act.put, lZa, lZb, lZc, i64_w, i32_w]
  rfl
 refine pure_ (i := 7) (N := some 83) (v := ?_) (a' := ?_) #[true, false, true, false, false, true, false, true, false, false, false, false, false, false, false, false, false, false, false, false, false, false, false, false, false, false, false, false, false, false, false, false, false, false, false, false, false, false, false, false, false, false, false, false, false, false, false, false, false, false, false, false, false] rfl rfl (by as_aux_lemma => kernel_rfl) (fun _ _ _ h => h) (Or.inl ⟨by rfl, ?_⟩) ?_ ?_
 rotate_left
 ·intro w'
  go_simp
  with_reducible rfl
 rotate_left
 ·simp only [Act.put, lZa, lZb, lZc, i64_w, i32_w]
  rfl
 refine takeD_ (i := 3) (N := some 79) (v := .agg (cV px)) (a' := ?_) #[true, false, true, true, false, true, false, true, false, false, false, false, false, false, false, false, false, false, false, false, false, false, false, false, false, false, false, false, false, false, false, false, false, false, false, false, false, false, false, false, false, false, false, false, false, false, false, false, false, false, false, false, false] rfl rfl (by as_aux_lemma => kernel_rfl) (fun _ _ _ h => h) (Or.inl ⟨by rfl, fun w' hS => yield_load _ _ rfl _ rfl (ld_Vv (HM.out.next hS).bp)⟩) hHeld ?_ ?_
 rotate_left
 ·simp only [Act.put, lZa, lZb, lZc, i64_w, i32_w]
  rfl
 refine takeD_ (i := 8) (N := some 84) (v := .agg (cV px)) (a' := ?_) #[true, false, true, true, false, true, false, true, true, false, false, false, false, false, false, false, false, false, false, false, false, false, false, false, false, false, false, false, false, false, false, false, false, false, false, false, false, false, false, false, false, false, false, false, false, false, false, false, false, false, false, false, false] rfl rfl (by as_aux_lemma => kernel_rfl) (fun _ _ _ h => h) (Or.inl ⟨by rfl, fun w' hS => yield_load _ _ rfl _ rfl (ld_Vv (HM.out.next hS).bp)⟩) hHeld ?_ ?_
 rotate_left
 ·simp only [Act.put, lZa, lZb, lZc, i64_w, i32_w]
  rfl
 refine one_ (i := 1) (N := some 77) #[true, true, true, true, false, true, false, true, true, false, false, false, false, false, false, false, false, false, false, false, false, false, false, false, false, false, false, false, false, false, false, false, false, false, false, false, false, false, false, false, false, false, false, false, false, false, false, false, false, false, false, false, false] rfl rfl (by as_aux_lemma => kernel_rfl) (by decide) (fun K hK => ?_)
 refine goes_ Tryz.func11 (by kernel_rfl) rfl #[.slice A l.length c] (by rfl) rfl rfl (by simp only [List.map_toArray, List.map_cons, List.map_nil]; rfl) ?_
 refine (Root4R_calls l A c _ (HM.out.next hHeld).rl HL.out.2.2.1 r HR0.out.1).mono ?_
 rintro e u6 ⟨rfl, hb6⟩
 refine ⟨_, rfl, ?_⟩
 refine hK.out _ _ (below_tr hHeld hb6 hHeld.size) (fun hHeld => ?_)
 clear hK K
 refine norm_ (a' := ?_) ?_ ?_
 rotate_left
 ·show Act.put _ (some 77) _ = _
  simp only [Act.put, lZa, lZb, lZc, i64_w, i32_w]
  rfl
 refine one_ (i := 4) (N := some 80) #[true, true, true, true, true, true, false, true, true, false, false, false, false, false, false, false, false, false, false, false, false, false, false, false, false, false, false, false, false, false, false, false, false, false, false, false, false, false, false, false, false, false, false, false, false, false, false, false, false, false, false, false, false] rfl rfl (by as_aux_lemma => kernel_rfl) (by decide) (fun K hK => ?_)
 refine goes_ Tryz.func16 (by kernel_rfl) rfl #[.agg (cS r), .string k, .agg (cV px)] (by rfl) rfl rfl (by simp only [List.map_toArray, List.map_cons, List.map_nil]; rfl) ?_
 refine (checkV_calls px r k HR0.out.2.2.1 _ (HM.out.next hHeld).words (HM.out.next hHeld).gp.C (Nat.le_succ_of_le (HM.out.next hHeld).gp.len) (HM.out.next hHeld).gp.key ck HCK.out.1).mono ?_
 rintro e u7 ⟨rfl, hb7⟩
 refine ⟨_, rfl, ?_⟩
 refine hK.out _ _ (below_tr hHeld hb7 hHeld.size) (fun hHeld => ?_)
 clear hK K
 refine norm_ (a' := ?_) ?_ ?_
 rotate_left
 ·show Act.put _ (some 80) _ = _
  simp only [Act.put, lZa, lZb, lZc, i64_w, i32_w]
  rfl
 refine one_ (i := 6) (N := some 82) #[true, true, true, true, true, true, true, true, true, false, false, false, false, false, false, false, false, false, false, false, false, false, false, false, false, false, false, false, false, false, false, false, false, false, false, false, false, false, false, false, false, false, false, false, false, false, false, false, false, false, false, false, false] rfl rfl (by as_aux_lemma => kernel_rfl) (by decide) (fun K hK => ?_)
 refine goes_ Tryz.func11 (by kernel_rfl) rfl #[.slice A l.length c] (by rfl) rfl rfl (by simp only [List.map_toArray, List.map_cons, List.map_nil]; rfl) ?_
 refine (Root4R_calls l A c _ (HM.out.next hHeld).rl HL.out.2.2.1 r HR0.out.1).mono ?_
 rintro e u8 ⟨rfl, hb8⟩
 refine ⟨_, rfl, ?_⟩
 refine hK.out _ _ (below_tr hHeld hb8 hHeld.size) (fun hHeld => ?_)
 clear hK K
 refine norm_ (a' := ?_) ?_ ?_
 rotate_left
 ·show Act.put _ (some 82) _ = _
  simp only [Act.put, lZa, lZb, lZc, i64_w, i32_w]
  rfl
 refine one_ (i := 9) (N := some 85) #[true, true, true, true, true, true, true, true, true, true, false, false, false, false, false, false, false, false, false, false, false, false, false, false, false, false, false, false, false, false, false, false, false, false, false, false, false, false, false, false, false, false, false, false, false, false, false, false, false, false, false, false, false] rfl rfl (by as_aux_lemma => kernel_rfl) (by decide) (fun K hK => ?_)
 refine goes_ Tryz.func17 (by kernel_rfl) rfl #[.agg (cS r), .string k, .agg (cV px)] (by rfl) rfl rfl (by simp only [List.map_toArray, List.map_cons, List.map_nil]; rfl) ?_
 refine (check4V_calls px r k HR0.out.2.2.1 _ (HM.out.next hHeld).gp.C (Nat.le_succ_of_le (HM.out.next hHeld).gp.len) (HM.out.next hHeld).gp.key ck HCK.out.1).mono ?_
 rintro e u9 ⟨rfl, hb9⟩
 refine ⟨_, rfl, ?_⟩
 refine hK.out _ _ (below_tr hHeld hb9 hHeld.size) (fun hHeld => ?_)
 clear hK K
 refine norm_ (a' := ?_) ?_ ?_
 rotate_left
 ·show Act.put _ (some 85) _ = _
  simp only [Act.put, lZa, lZb, lZc, i64_w, i32_w]
  rfl
 refine pure_ (i := 10) (N := some 86) (v := .bool true) (a' := ?_) #[true, true, true, true, true, true, true, true, true, true, true, false, false, false, false, false, false, false, false, false, false, false, false, false, false, false, false, false, false, false, false, false, false, false, false, false, false, false, false, false, false, false, false, false, false, false, false, false, false, false, false, false, false] rfl rfl (by as_aux_lemma => kernel_rfl) (fun _ _ _ h => h) (Or.inl ⟨by rfl, fun w' => yield_eql _ _ _ _ rfl _ _ rfl rfl gt_K (eqK_r w' ck)⟩) ?_ ?_
 rotate_left
 ·simp only [Act.put, lZa, lZb, lZc, i64_w, i32_w]
  rfl
 refine pure_ (i := 11) (N := some 87) (v := ?_) (a' := ?_) #[true, true, true, true, true, true, true, true, true, true, true, true, false, false, false, false, false, false, false, false, false, false, false, false, false, false, false, false, false, false, false, false, false, false, false, false, false, false, false, false, false, false, false, false, false, false, false, false, false, false, false, false, false] rfl rfl (by as_aux_lemma => kernel_rfl) (fun _ _ _ h => h) (Or.inl ⟨by rfl, ?_⟩) ?_ ?_
 rotate_left
 ·intro w'
  go_simp
  with_reducible rfl
 rotate_left
 ·simp only [Act.put, lZa, lZb, lZc, i64_w, i32_w]
  rfl
 refine pure_ (i := 12) (N := some 88) (v := ?_) (a' := ?_) #[true, true, true, true, true, true, true, true, true, true, true, true, true, false, false, false, false, false, false, false, false, false, false, false, false, false, false, false, false, false, false, false, false, false, false, false, false, false, false, false, false, false, false, false, false, false, false, false, false, false, false, false, false] rfl rfl (by as_aux_lemma => kernel_rfl) (fun _ _ _ h => h) (Or.inl ⟨by rfl, ?_⟩) ?_ ?_
 rotate_left
 ·intro w'
  go_simp
  with_reducible rfl
 rotate_left
 ·simp only [Act.put, lZa, lZb, lZc, i64_w, i32_w]
  rfl
 refine pure_ (i := 14) (N := some 90) (v := ?_) (a' := ?_) #[true, true, true, true, true, true, true, true, true, true, true, true, true, false, true, false, false, false, false, false, false, false, false, false, false, false, false, false, false, false, false, false, false, false, false, false, false, false, false, false, false, false, false, false, false, false, false, false, false, false, false, false, false] rfl rfl (by as_aux_lemma => kernel_rfl) (fun _ _ _ h => h) (Or.inl ⟨by rfl, ?_⟩) ?_ ?_
 rotate_left
 ·intro w'
  go_simp
  with_reducible rfl
 rotate_left
 ·simp only [Act.put, lZa, lZb, lZc, i64_w, i32_w]
  rfl
 refine takeD_ (i := 15) (N := some 91) (v := .agg (cV ox)) (a' := ?_) #[true, true, true, true, true, true, true, true, true, true, true, true, true, false, true, true, false, false, false, false, false, false, false, false, false, false, false, false, false, false, false, false, false, false, false, false, false, false, false, false, false, false, false, false, false, false, false, false, false, false, false, false, false] rfl rfl (by as_aux_lemma => kernel_rfl) (fun _ _ _ h => h) (Or.inl ⟨by rfl, fun w' hS => yield_load _ _ rfl _ rfl (ld_Vv (HM.out.next hS).bo)⟩) hHeld ?_ ?_
 rotate_left
 ·simp only [Act.put, lZa, lZb, lZc, i64_w, i32_w]
  rfl
 refine pure_ (i := 17) (N := some 93) (v := ?_) (a' := ?_) #[true, true, true, true, true, true, true, true, true, true, true, true, true, false, true, true, false, true, false, false, false, false, false, false, false, false, false, false, false, false, false, false, false, false, false, false, false, false, false, false, false, false, false, false, false, false, false, false, false, false, false, false, false] rfl rfl (by as_aux_lemma => kernel_rfl) (fun _ _ _ h => h) (Or.inl ⟨by rfl, ?_⟩) ?_ ?_
 rotate_left
 ·intro w'
  go_simp
  with_reducible rfl
 rotate_left
 ·simp only [Act.put, lZa, lZb, lZc, i64_w, i32_w]
  rfl
 refine pure_ (i := 19) (N := some 95) (v := ?_) (a' := ?_) #[true, true, true, true, true, true, true, true, true, true, true, true, true, false, true, true, false, true, false, true, false, false, false, false, false, false, false, false, false, false, false, false, false, false, false, false, false, false, false, false, false, false, false, false, false, false, false, false, false, false, false, false, false] rfl rfl (by as_aux_lemma => kernel_rfl) (fun _ _ _ h => h) (Or.inl ⟨by rfl, ?_⟩) ?_ ?_
 rotate_left
 ·intro w'
  go_simp
  with_reducible rfl
 rotate_left
 ·simp only [Act.put, lZa, lZb, lZc, i64_w, i32_w]
  rfl
 refine takeD_ (i := 20) (N := some 96) (v := .agg (cV ox)) (a' := ?_) #[true, true, true, true, true, true, true, true, true, true, true, true, true, false, true, true, false, true, false, true, true, false, false, false, false, false, false, false, false, false, false, false, false, false, false, false, false, false, false, false, false, false, false, false, false, false, false, false, false, false, false, false, false] rfl rfl (by as_aux_lemma => kernel_rfl) (fun _ _ _ h => h) (Or.inl ⟨by rfl, fun w' hS => yield_load _ _ rfl _ rfl (ld_Vv (HM.out.next hS).bo)⟩) hHeld ?_ ?_
 rotate_left
 ·simp only [Act.put, lZa, lZb, lZc, i64_w, i32_w]
  rfl
 refine one_ (i := 13) (N := some 89) #[true, true, true, true, true, true, true, true, true, true, true, true, true, true, true, true, false, true, false, true, true, false, false, false, false, false, false, false, false, false, false, false, false, false, false, false, false, false, false, false, false, false, false, false, false, false, false, false, false, false, false, false, false] rfl rfl (by as_aux_lemma => kernel_rfl) (by decide) (fun K hK => ?_)
 refine goes_ Tryz.func11 (by kernel_rfl) rfl #[.slice A l.length c] (by rfl) rfl rfl (by simp only [List.map_toArray, List.map_cons, List.map_nil]; rfl) ?_
 refine (Root4R_calls l A c _ (HM.out.next hHeld).rl HL.out.2.2.1 r HR0.out.1).mono ?_
 rintro e u10 ⟨rfl, hb10⟩
 refine ⟨_, rfl, ?_⟩
 refine hK.out _ _ (below_tr hHeld hb10 hHeld.size) (fun hHeld => ?_)
 clear hK K
 refine norm_ (a' := ?_) ?_ ?_
 rotate_left
 ·show Act.put _ (some 89) _ = _
  simp only [Act.put, lZa, lZb, lZc, i64_w, i32_w]
  rfl
 refine one_ (i := 16) (N := some 92) #[true, true, true, true, true, true, true, true, true, true, true, true, true, true, true, true, true, true, false, true, true, false, false, false, false, false, false, false, false, false, false, false, false, false, false, false, false, false, false, false, false, false, false, false, false, false, false, false, false, false, false, false, false] rfl rfl (by as_aux_lemma => kernel_rfl) (by decide) (fun K hK => ?_)
 refine goes_ Tryz.func16 (by kernel_rfl) rfl #[.agg (cS r), .string k, .agg (cV ox)] (by rfl) rfl rfl (by simp only [List.map_toArray, List.map_cons, List.map_nil]; rfl) ?_
 refine (checkV_calls ox r k HR0.out.2.2.1 _ (HM.out.next hHeld).words (HM.out.next hHeld).go.C (HM.out.next hHeld).go.len (HM.out.next hHeld).go.key co HCK.out.2).mono ?_
 rintro e u11 ⟨rfl, hb11⟩
 refine ⟨_, rfl, ?_⟩
 refine hK.out _ _ (below_tr hHeld hb11 hHeld.size) (fun hHeld => ?_)
 clear hK K
 refine norm_ (a' := ?_) ?_ ?_
 rotate_left
 ·show Act.put _ (some 92) _ = _
  simp only [Act.put, lZa, lZb, lZc, i64_w, i32_w]
  rfl
 refine one_ (i := 18) (N := some 94) #[true, true, true, true, true, true, true, true, true, true, true, true, true, true, true, true, true, true, true, true, true, false, false, false, false, false, false, false, false, false, false, false, false, false, false, false, false, false, false, false, false, false, false, false, false, false, false, false, false, false, false, false, false] rfl rfl (by as_aux_lemma => kernel_rfl) (by decide) (fun K hK => ?_)
 refine goes_ Tryz.func11 (by kernel_rfl) rfl #[.slice A l.length c] (by rfl) rfl rfl (by simp only [List.map_toArray, List.map_cons, List.map_nil]; rfl) ?_
 refine (Root4R_calls l A c _ (HM.out.next hHeld).rl HL.out.2.2.1 r HR0.out.1).mono ?_
 rintro e u12 ⟨rfl, hb12⟩
 refine ⟨_, rfl, ?_⟩
 refine hK.out _ _ (below_tr hHeld hb12 hHeld.size) (fun hHeld => ?_)
 clear hK K
 refine norm_ (a' := ?_) ?_ ?_
 rotate_left
 ·show Act.put _ (some 94) _ = _
  simp only [Act.put, lZa, lZb, lZc, i64_w, i32_w]
  rfl
 refine one_ (i := 21) (N := some 97) #[true, true, true, true, true, true, true, true, true, true, true, true, true, true, true, true, true, true, true, true, true, true, false, false, false, false, false, false, false, false, false, false, false, false, false, false, false, false, false, false, false, false, false, false, false, false, false, false, false, false, false, false, false] rfl rfl (by as_aux_lemma => kernel_rfl) (by decide) (fun K hK => ?_)
 refine goes_ Tryz.func17 (by kernel_rfl) rfl #[.agg (cS r), .string k, .agg (cV ox)] (by rfl) rfl rfl (by simp only [List.map_toArray, List.map_cons, List.map_nil]; rfl) ?_
 refine (check4V_calls ox r k HR0.out.2.2.1 _ (HM.out.next hHeld).go.C (HM.out.next hHeld).go.len (HM.out.next hHeld).go.key co HCK.out.2).mono ?_
 rintro e u13 ⟨rfl, hb13⟩
 refine ⟨_, rfl, ?_⟩
 refine hK.out _ _ (below_tr hHeld hb13 hHeld.size) (fun hHeld => ?_)
 clear hK K
 refine norm_ (a' := ?_) ?_ ?_
 rotate_left
 ·show Act.put _ (some 97) _ = _
  simp only [Act.put, lZa, lZb, lZc, i64_w, i32_w]
  rfl
 refine pure_ (i := 22) (N := some 98) (v := .bool true) (a' := ?_) #[true, true, true, true, true, true, true, true, true, true, true, true, true, true, true, true, true, true, true, true, true, true, true, false, false, false, false, false, false, false, false, false, false, false, false, false, false, false, false, false, false, false, false, false, false, false, false, false, false, false, false, false, false] rfl rfl (by as_aux_lemma => kernel_rfl) (fun _ _ _ h => h) (Or.inl ⟨by rfl, fun w' => yield_eql _ _ _ _ rfl _ _ rfl rfl gt_K (eqK_r w' co)⟩) ?_ ?_
 rotate_left
 ·simp only [Act.put, lZa, lZb, lZc, i64_w, i32_w]
  rfl
 refine pure_ (i := 23) (N := some 99) (v := ?_) (a' := ?_) #[true, true, true, true, true, true, true, true, true, true, true, true, true, true, true, true, true, true, true, true, true, true, true, true, false, false, false, false, false, false, false, false, false, false, false, false, false, false, false, false, false, false, false, false, false, false, false, false, false, false, false, false, false] rfl rfl (by as_aux_lemma => kernel_rfl) (fun _ _ _ h => h) (Or.inl ⟨by rfl, ?_⟩) ?_ ?_
 rotate_left
 ·intro w'
  go_simp
  with_reducible rfl
 rotate_left
 ·simp only [Act.put, lZa, lZb, lZc, i64_w, i32_w]
  rfl
 refine pure_ (i := 24) (N := some 100) (v := ?_) (a' := ?_) #[true, true, true, true, true, true, true, true, true, true, true, true, true, true, true, true, true, true, true, true, true, true, true, true, true, false, false, false, false, false, false, false, false, false, false, false, false, false, false, false, false, false, false, false, false, false, false, false, false, false, false, false, false] rfl rfl (by as_aux_lemma => kernel_rfl) (fun _ _ _ h => h) (Or.inl ⟨by rfl, ?_⟩) ?_ ?_
 rotate_left
 ·intro w'
  go_simp
  with_reducible rfl
 rotate_left
 ·simp only [Act.put, lZa, lZb, lZc, i64_w, i32_w]
  rfl
 refine pure_ (i := 25) (N := some 101) (v := ?_) (a' := ?_) #[true, true, true, true, true, true, true, true, true, true, true, true, true, true, true, true, true, true, true, true, true, true, true, true, true, true, false, false, false, false, false, false, false, false, false, false, false, false, false, false, false, false, false, false, false, false, false, false, false, false, false, false, false] rfl rfl (by as_aux_lemma => kernel_rfl) (fun _ _ _ h => h) (Or.inl ⟨by rfl, ?_⟩) ?_ ?_
 rotate_left
 ·intro w'
  go_simp
  with_reducible rfl
 rotate_left
 ·simp only [Act.put, lZa, lZb, lZc, i64_w, i32_w]
  rfl
 refine pure_ (i := 28) (N := some 104) (v := ?_) (a' := ?_) #[true, true, true, true, true, true, true, true, true, true, true, true, true, true, true, true, true, true, true, true, true, true, true, true, true, true, false, false, true, false, false, false, false, false, false, false, false, false, false, false, false, false, false, false, false, false, false, false, false, false, false, false, false] rfl rfl (by as_aux_lemma => kernel_rfl) (fun _ _ _ h => h) (Or.inl ⟨by rfl, ?_⟩) ?_ ?_
 rotate_left
 ·intro w'
  go_simp
  with_reducible rfl
 rotate_left
 ·simp only [Act.put, lZa, lZb, lZc, i64_w, i32_w]
  rfl
 refine takeD_ (i := 26) (N := some 102) (v := .agg (cL x)) (a' := ?_) #[true, true, true, true, true, true, true, true, true, true, true, true, true, true, true, true, true, true, true, true, true, true, true, true, true, true, true, false, true, false, false, false, false, false, false, false, false, false, false, false, false, false, false, false, false, false, false, false, false, false, false, false, false] rfl rfl (by as_aux_lemma => kernel_rfl) (fun _ _ _ h => h) (Or.inl ⟨by rfl, fun w' hS => yield_load _ _ rfl _ rfl (ld_L (HM.out.next hS).bx 0)⟩) hHeld ?_ ?_
 rotate_left
 ·simp only [Act.put, lZa, lZb, lZc, i64_w, i32_w]
  rfl
 refine takeD_ (i := 29) (N := some 105) (v := .agg (cL x)) (a' := ?_) #[true, true, true, true, true, true, true, true, true, true, true, true, true, true, true, true, true, true, true, true, true, true, true, true, true, true, true, false, true, true, false, false, false, false, false, false, false, false, false, false, false, false, false, false, false, false, false, false, false, false, false, false, false] rfl rfl (by as_aux_lemma => kernel_rfl) (fun _ _ _ h => h) (Or.inl ⟨by rfl, fun w' hS => yield_load _ _ rfl _ rfl (ld_L (HM.out.next hS).bx 0)⟩) hHeld ?_ ?_
 rotate_left
 ·simp only [Act.put, lZa, lZb, lZc, i64_w, i32_w]
  rfl
 refine one_ (i := 27) (N := some 103) #[true, true, true, true, true, true, true, true, true, true, true, true, true, true, true, true, true, true, true, true, true, true, true, true, true, true, true, true, true, true, false, false, false, false, false, false, false, false, false, false, false, false, false, false, false, false, false, false, false, false, false, false, false] rfl rfl (by as_aux_lemma => kernel_rfl) (by decide) (fun K hK => ?_)
 refine goes_ Tryz.func19 (by kernel_rfl) rfl #[.slice A l.length c, .agg (cL x)] (by rfl) rfl rfl (by simp only [List.map_toArray, List.map_cons, List.map_nil]; rfl) ?_
 refine (putP_calls l x A c _ (HM.out.next hHeld).rl HLN.out.2.2 HL.out.2.2.2.2.2.2 P HX.out.2.1).mono ?_
 rintro e u14 ⟨A14, c14, rfl, hr14, hb14⟩
 refine ⟨_, rfl, ?_⟩
 have R14 := Aside0.mk hr14
 clear hr14
 refine hK.out _ _ (below_tr hHeld hb14 hHeld.size) (fun hHeld => ?_)
 clear hK K
 refine norm_ (a' := ?_) ?_ ?_
 rotate_left
 ·show Act.put _ (some 103) _ = _
  simp only [Act.put, lZa, lZb, lZc, i64_w, i32_w]
  rfl
 refine one_ (i := 30) (N := some 106) #[true, true, true, true, true, true, true, true, true, true, true, true, true, true, true, true, true, true, true, true, true, true, true, true, true, true, true, true, true, true, true, false, false, false, false, false, false, false, false, false, false, false, false, false, false, false, false, false, false, false, false, false, false] rfl rfl (by as_aux_lemma => kernel_rfl) (by decide) (fun K hK => ?_)
 refine goes_ Tryz.func20 (by kernel_rfl) rfl #[.slice A l.length c, .agg (cL x)] (by rfl) rfl rfl (by simp only [List.map_toArray, List.map_cons, List.map_nil]; rfl) ?_
 refine (put4P_calls l x A c _ (HM.out.next hHeld).rl HLN.out.2.2 P HX.out.2.1).mono ?_
 rintro e u15 ⟨A15, c15, rfl, hr15, hb15⟩
 refine ⟨_, rfl, ?_⟩
 have R14 := Aside0.mk (R14.out.below hb15)
 have R15 := Aside0.mk hr15
 clear hr15
 refine hK.out _ _ (below_tr hHeld hb15 hHeld.size) (fun hHeld => ?_)
 clear hK K
 refine norm_ (a' := ?_) ?_ ?_
 rotate_left
 ·show Act.put _ (some 106) _ = _
  simp only [Act.put, lZa, lZb, lZc, i64_w, i32_w]
  rfl
 refine one_ (i := 31) (N := some 107) #[true, true, true, true, true, true, true, true, true, true, true, true, true, true, true, true, true, true, true, true, true, true, true, true, true, true, true, true, true, true, true, true, false, false, false, false, false, false, false, false, false, false, false, false, false, false, false, false, false, false, false, false, false] rfl rfl (by as_aux_lemma => kernel_rfl) (by decide) (fun K hK => ?_)
 refine goes_ Tryz.func18 (by kernel_rfl) rfl #[.slice A14 P.length c14, .slice A15 P.length c15] (by rfl) rfl rfl (by simp only [List.map_toArray, List.map_cons, List.map_nil]; rfl) ?_
 refine (sameP_calls P A14 A15 c14 c15 _ R14.out R15.out HX.out.2.2.2.1).mono ?_
 rintro e u16 ⟨rfl, hb16⟩
 refine ⟨_, rfl, ?_⟩
 refine hK.out _ _ (below_tr hHeld hb16 hHeld.size) (fun hHeld => ?_)
 clear hK K
 refine norm_ (a' := ?_) ?_ ?_
 rotate_left
 ·show Act.put _ (some 107) _ = _
  simp only [Act.put, lZa, lZb, lZc, i64_w, i32_w]
  rfl
 refine pure_ (i := 32) (N := some 108) (v := ?_) (a' := ?_) #[true, true, true, true, true, true, true, true, true, true, true, true, true, true, true, true, true, true, true, true, true, true, true, true, true, true, true, true, true, true, true, true, true, false, false, false, false, false, false, false, false, false, false, false, false, false, false, false, false, false, false, false, false] rfl rfl (by as_aux_lemma => kernel_rfl) (fun _ _ _ h => h) (Or.inl ⟨by rfl, ?_⟩) ?_ ?_
 rotate_left
 ·intro w'
  go_simp
  with_reducible rfl
 rotate_left
 ·simp only [Act.put, lZa, lZb, lZc, i64_w, i32_w]
  rfl
 refine pure_ (i := 33) (N := some 109) (v := ?_) (a' := ?_) #[true, true, true, true, true, true, true, true, true, true, true, true, true, true, true, true, true, true, true, true, true, true, true, true, true, true, true, true, true, true, true, true, true, true, false, false, false, false, false, false, false, false, false, false, false, false, false, false, false, false, false, false, false] rfl rfl (by as_aux_lemma => kernel_rfl) (fun _ _ _ h => h) (Or.inl ⟨by rfl, ?_⟩) ?_ ?_
 rotate_left
 ·intro w'
  go_simp
  with_reducible rfl
 rotate_left
 ·simp only [Act.put, lZa, lZb, lZc, i64_w, i32_w]
  rfl
 refine pure_ (i := 34) (N := some 110) (v := ?_) (a' := ?_) #[true, true, true, true, true, true, true, true, true, true, true, true, true, true, true, true, true, true, true, true, true, true, true, true, true, true, true, true, true, true, true, true, true, true, true, false, false, false, false, false, false, false, false, false, false, false, false, false, false, false, false, false, false] rfl rfl (by as_aux_lemma => kernel_rfl) (fun _ _ _ h => h) (Or.inl ⟨by rfl, ?_⟩) ?_ ?_
 rotate_left
 ·intro w'
  go_simp
  with_reducible rfl
 rotate_left
 ·simp only [Act.put, lZa, lZb, lZc, i64_w, i32_w]
  rfl
 refine pure_ (i := 35) (N := some 111) (v := ?_) (a' := ?_) #[true, true, true, true, true, true, true, true, true, true, true, true, true, true, true, true, true, true, true, true, true, true, true, true, true, true, true, true, true, true, true, true, true, true, true, true, false, false, false, false, false, false, false, false, false, false, false, false, false, false, false, false, false] rfl rfl (by as_aux_lemma => kernel_rfl) (fun _ _ _ h => h) (Or.inl ⟨by rfl, ?_⟩) ?_ ?_
 rotate_left
 ·intro w'
  go_simp
  with_reducible rfl
 rotate_left
 ·simp only [Act.put, lZa, lZb, lZc, i64_w, i32_w]
  rfl
 refine pure_ (i := 37) (N := some 113) (v := ?_) (a' := ?_) #[true, true, true, true, true, true, true, true, true, true, true, true, true, true, true, true, true, true, true, true, true, true, true, true, true, true, true, true, true, true, true, true, true, true, true, true, false, true, false, false, false, false, false, false, false, false, false, false, false, false, false, false, false] rfl rfl (by as_aux_lemma => kernel_rfl) (fun _ _ _ h => h) (Or.inl ⟨by rfl, ?_⟩) ?_ ?_
 rotate_left
 ·intro w'
  go_simp
  with_reducible rfl
 rotate_left
 ·simp only [Act.put, lZa, lZb, lZc, i64_w, i32_w]
  rfl
 refine pure_ (i := 38) (N := some 114) (v := ?_) (a' := ?_) #[true, true, true, true, true, true, true, true, true, true, true, true, true, true, true, true, true, true, true, true, true, true, true, true, true, true, true, true, true, true, true, true, true, true, true, true, false, true, true, false, false, false, false, false, false, false, false, false, false, false, false, false, false] rfl rfl (by as_aux_lemma => kernel_rfl) (fun _ _ _ h => h) (Or.inl ⟨by rfl, ?_⟩) ?_ ?_
 rotate_left
 ·intro w'
  go_simp
  with_reducible rfl
 rotate_left
 ·simp only [Act.put, lZa, lZb, lZc, i64_w, i32_w]
  rfl
 refine one_ (i := 36) (N := some 112) #[true, true, true, true, true, true, true, true, true, true, true, true, true, true, true, true, true, true, true, true, true, true, true, true, true, true, true, true, true, true, true, true, true, true, true, true, true, true, true, false, false, false, false, false, false, false, false, false, false, false, false, false, false] rfl rfl (by as_aux_lemma => kernel_rfl) (by decide) (fun K hK => ?_)
 refine goes_ Tryz.func21 (by kernel_rfl) rfl #[.slice A l.length c, .string k] (by rfl) rfl rfl (by simp only [List.map_toArray, List.map_cons, List.map_nil]; rfl) ?_
 refine (dropP_calls l k A c _ (HM.out.next hHeld).rl HLN.out.2.2 HL.out.2.2.2.2.2.2 E HX.out.2.2.1).mono ?_
 rintro e u17 ⟨A17, c17, rfl, hr17, hb17⟩
 refine ⟨_, rfl, ?_⟩
 have R17 := Aside0.mk hr17
 clear hr17
 refine hK.out _ _ (below_tr hHeld hb17 hHeld.size) (fun hHeld => ?_)
 clear hK K
 refine norm_ (a' := ?_) ?_ ?_
 rotate_left
 ·show Act.put _ (some 112) _ = _
  simp only [Act.put, lZa, lZb, lZc, i64_w, i32_w]
  rfl
 refine one_ (i := 39) (N := some 115) #[true, true, true, true, true, true, true, true, true, true, true, true, true, true, true, true, true, true, true, true, true, true, true, true, true, true, true, true, true, true, true, true, true, true, true, true, true, true, true, true, false, false, false, false, false, false, false, false, false, false, false, false, false] rfl rfl (by as_aux_lemma => kernel_rfl) (by decide) (fun K hK => ?_)
 refine goes_ Tryz.func22 (by kernel_rfl) rfl #[.slice A l.length c, .string k] (by rfl) rfl rfl (by simp only [List.map_toArray, List.map_cons, List.map_nil]; rfl) ?_
 refine (drop4P_calls l k A c _ (HM.out.next hHeld).rl HLN.out.2.2 E HX.out.2.2.1).mono ?_
 rintro e u18 ⟨A18, c18, rfl, hr18, hb18⟩
 refine ⟨_, rfl, ?_⟩
 have R17 := Aside0.mk (R17.out.below hb18)
 have R18 := Aside0.mk hr18
 clear hr18
 refine hK.out _ _ (below_tr hHeld hb18 hHeld.size) (fun hHeld => ?_)
 clear hK K
 refine norm_ (a' := ?_) ?_ ?_
 rotate_left
 ·show Act.put _ (some 115) _ = _
  simp only [Act.put, lZa, lZb, lZc, i64_w, i32_w]
  rfl
 refine one_ (i := 40) (N := some 116) #[true, true, true, true, true, true, true, true, true, true, true, true, true, true, true, true, true, true, true, true, true, true, true, true, true, true, true, true, true, true, true, true, true, true, true, true, true, true, true, true, true, false, false, false, false, false, false, false, false, false, false, false, false] rfl rfl (by as_aux_lemma => kernel_rfl) (by decide) (fun K hK => ?_)
 refine goes_ Tryz.func18 (by kernel_rfl) rfl #[.slice A17 E.length c17, .slice A18 E.length c18] (by rfl) rfl rfl (by simp only [List.map_toArray, List.map_cons, List.map_nil]; rfl) ?_
 refine (sameP_calls E A17 A18 c17 c18 _ R17.out R18.out HX.out.2.2.2.2.1).mono ?_
 rintro e u19 ⟨rfl, hb19⟩
 refine ⟨_, rfl, ?_⟩
 refine hK.out _ _ (below_tr hHeld hb19 hHeld.size) (fun hHeld => ?_)
 clear hK K
 refine norm_ (a' := ?_) ?_ ?_
 rotate_left
 ·show Act.put _ (some 116) _ = _
  simp only [Act.put, lZa, lZb, lZc, i64_w, i32_w]
  rfl
 refine pure_ (i := 41) (N := some 117) (v := ?_) (a' := ?_) #[true, true, true, true, true, true, true, true, true, true, true, true, true, true, true, true, true, true, true, true, true, true, true, true, true, true, true, true, true, true, true, true, true, true, true, true, true, true, true, true, true, true, false, false, false, false, false, false, false, false, false, false, false] rfl rfl (by as_aux_lemma => kernel_rfl) (fun _ _ _ h => h) (Or.inl ⟨by rfl, ?_⟩) ?_ ?_
 rotate_left
 ·intro w'
  go_simp
  with_reducible rfl
 rotate_left
 ·simp only [Act.put, lZa, lZb, lZc, i64_w, i32_w]
  rfl
 refine pure_ (i := 42) (N := some 118) (v := ?_) (a' := ?_) #[true, true, true, true, true, true, true, true, true, true, true, true, true, true, true, true, true, true, true, true, true, true, true, true, true, true, true, true, true, true, true, true, true, true, true, true, true, true, true, true, true, true, true, false, false, false, false, false, false, false, false, false, false] rfl rfl (by as_aux_lemma => kernel_rfl) (fun _ _ _ h => h) (Or.inl ⟨by rfl, ?_⟩) ?_ ?_
 rotate_left
 ·intro w'
  go_simp
  with_reducible rfl
 rotate_left
 ·simp only [Act.put, lZa, lZb, lZc, i64_w, i32_w]
  rfl
 refine pure_ (i := 43) (N := some 119) (v := ?_) (a' := ?_) #[true, true, true, true, true, true, true, true, true, true, true, true, true, true, true, true, true, true, true, true, true, true, true, true, true, true, true, true, true, true, true, true, true, true, true, true, true, true, true, true, true, true, true, true, false, false, false, false, false, false, false, false, false] rfl rfl (by as_aux_lemma => kernel_rfl) (fun _ _ _ h => h) (Or.inl ⟨by rfl, ?_⟩) ?_ ?_
 rotate_left
 ·intro w'
  go_simp
  with_reducible rfl
 rotate_left
 ·simp only [Act.put, lZa, lZb, lZc, i64_w, i32_w]
  rfl
 refine pure_ (i := 45) (N := some 121) (v := ?_) (a' := ?_) #[true, true, true, true, true, true, true, true, true, true, true, true, true, true, true, true, true, true, true, true, true, true, true, true, true, true, true, true, true, true, true, true, true, true, true, true, true, true, true, true, true, true, true, true, false, true, false, false, false, false, false, false, false] rfl rfl (by as_aux_lemma => kernel_rfl) (fun _ _ _ h => h) (Or.inl ⟨by rfl, ?_⟩) ?_ ?_
 rotate_left
 ·intro w'
  go_simp
  with_reducible rfl
 rotate_left
 ·simp only [Act.put, lZa, lZb, lZc, i64_w, i32_w]
  rfl
 refine one_ (i := 44) (N := some 120) #[true, true, true, true, true, true, true, true, true, true, true, true, true, true, true, true, true, true, true, true, true, true, true, true, true, true, true, true, true, true, true, true, true, true, true, true, true, true, true, true, true, true, true, true, true, true, false, false, false, false, false, false, false] rfl rfl (by as_aux_lemma => kernel_rfl) (by decide) (fun K hK => ?_)
 refine goes_ Tryz.func23 (by kernel_rfl) rfl #[.slice As ml.length cs] (by rfl) rfl rfl (by simp only [List.map_toArray, List.map_cons, List.map_nil]; rfl) ?_
 refine (validmB_calls ml As cs _ (HM.out.next hHeld).rs HX.out.2.2.2.2.2.2 vb HX.out.2.2.2.2.2.1).mono ?_
 rintro e u20 ⟨rfl, hb20⟩
 refine ⟨_, rfl, ?_⟩
 refine hK.out _ _ (below_tr hHeld hb20 hHeld.size) (fun hHeld => ?_)
 clear hK K
 refine norm_ (a' := ?_) ?_ ?_
 rotate_left
 ·show Act.put _ (some 120) _ = _
  simp only [Act.put, lZa, lZb, lZc, i64_w, i32_w]
  rfl
 refine one_ (i := 46) (N := some 122) #[true, true, true, true, true, true, true, true, true, true, true, true, true, true, true, true, true, true, true, true, true, true, true, true, true, true, true, true, true, true, true, true, true, true, true, true, true, true, true, true, true, true, true, true, true, true, true, false, false, false, false, false, false] rfl rfl (by as_aux_lemma => kernel_rfl) (by decide) (fun K hK => ?_)
 refine goes_ Tryz.func24 (by kernel_rfl) rfl #[.slice As ml.length cs] (by rfl) rfl rfl (by simp only [List.map_toArray, List.map_cons, List.map_nil]; rfl) ?_
 refine (valid4B_calls ml As cs _ (HM.out.next hHeld).rs HX.out.2.2.2.2.2.2 vb HX.out.2.2.2.2.2.1).mono ?_
 rintro e u21 ⟨rfl, hb21⟩
 refine ⟨_, rfl, ?_⟩
 refine hK.out _ _ (below_tr hHeld hb21 hHeld.size) (fun hHeld => ?_)
 clear hK K
 refine norm_ (a' := ?_) ?_ ?_
 rotate_left
 ·show Act.put _ (some 122) _ = _
  simp only [Act.put, lZa, lZb, lZc, i64_w, i32_w]
  rfl
 refine pure_ (i := 47) (N := some 123) (v := ?_) (a' := ?_) #[true, true, true, true, true, true, true, true, true, true, true, true, true, true, true, true, true, true, true, true, true, true, true, true, true, true, true, true, true, true, true, true, true, true, true, true, true, true, true, true, true, true, true, true, true, true, true, true, false, false, false, false, false] rfl rfl (by as_aux_lemma => kernel_rfl) (fun _ _ _ h => h) (Or.inl ⟨by rfl, ?_⟩) ?_ ?_
 rotate_left
 ·intro w'
  go_simp
  with_reducible rfl
 rotate_left
 ·simp only [Act.put, lZa, lZb, lZc, i64_w, i32_w]
  rfl
 refine pure_ (i := 48) (N := some 124) (v := ?_) (a' := ?_) #[true, true, true, true, true, true, true, true, true, true, true, true, true, true, true, true, true, true, true, true, true, true, true, true, true, true, true, true, true, true, true, true, true, true, true, true, true, true, true, true, true, true, true, true, true, true, true, true, true, false, false, false, false] rfl rfl (by as_aux_lemma => kernel_rfl) (fun _ _ _ h => h) (Or.inl ⟨by rfl, ?_⟩) ?_ ?_
 rotate_left
 ·intro w'
  go_simp
  with_reducible rfl
 rotate_left
 ·simp only [Act.put, lZa, lZb, lZc, i64_w, i32_w]
  rfl
 refine pure_ (i := 49) (N := some 125) (v := ?_) (a' := ?_) #[true, true, true, true, true, true, true, true, true, true, true, true, true, true, true, true, true, true, true, true, true, true, true, true, true, true, true, true, true, true, true, true, true, true, true, true, true, true, true, true, true, true, true, true, true, true, true, true, true, true, false, false, false] rfl rfl (by as_aux_lemma => kernel_rfl) (fun _ _ _ h => h) (Or.inl ⟨by rfl, ?_⟩) ?_ ?_
 rotate_left
 ·intro w'
  go_simp
  with_reducible rfl
 rotate_left
 ·simp only [Act.put, lZa, lZb, lZc, i64_w, i32_w]
  rfl
 refine pure_ (i := 50) (N := some 126) (v := ?_) (a' := ?_) #[true, true, true, true, true, true, true, true, true, true, true, true, true, true, true, true, true, true, true, true, true, true, true, true, true, true, true, true, true, true, true, true, true, true, true, true, true, true, true, true, true, true, true, true, true, true, true, true, true, true, true, false, false] rfl rfl (by as_aux_lemma => kernel_rfl) (fun _ _ _ h => h) (Or.inl ⟨by rfl, ?_⟩) ?_ ?_
 rotate_left
 ·intro w'
  go_simp
  with_reducible rfl
 rotate_left
 ·simp only [Act.put, lZa, lZb, lZc, i64_w, i32_w]
  rfl
 refine pure_ (i := 51) (N := some 127) (v := ?_) (a' := ?_) #[true, true, true, true, true, true, true, true, true, true, true, true, true, true, true, true, true, true, true, true, true, true, true, true, true, true, true, true, true, true, true, true, true, true, true, true, true, true, true, true, true, true, true, true, true, true, true, true, true, true, true, true, false] rfl rfl (by as_aux_lemma => kernel_rfl) (fun _ _ _ h => h) (Or.inl ⟨by rfl, ?_⟩) ?_ ?_
 rotate_left
 ·intro w'
  go_simp
  with_reducible rfl
 rotate_left
 ·simp only [Act.put, lZa, lZb, lZc, i64_w, i32_w]
  rfl
 refine pure_ (i := 52) (N := some 6) (v := ?_) (a' := ?_) #[true, true, true, true, true, true, true, true, true, true, true, true, true, true, true, true, true, true, true, true, true, true, true, true, true, true, true, true, true, true, true, true, true, true, true, true, true, true, true, true, true, true, true, true, true, true, true, true, true, true, true, true, true] rfl rfl (by as_aux_lemma => kernel_rfl) (fun _ _ _ h => h) (Or.inl ⟨by rfl, ?_⟩) ?_ ?_
 rotate_left
 ·intro w'
  go_simp
  with_reducible rfl
 rotate_left
 ·simp only [Act.put, lZa, lZb, lZc, i64_w, i32_w]
  rfl
 refine done_ (by kernel_rfl) ?_
 have HFIN := Aside0.mk (HM.out.next hHeld).below
 clear hHeld
 go_wp2
 go_ret
 exact ⟨rfl, HFIN.out⟩
end Go.Proofs.YtanabbjakacgbaaGreatDoor.Sp

