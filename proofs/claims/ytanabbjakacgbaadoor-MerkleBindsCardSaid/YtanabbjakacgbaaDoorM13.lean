/- Put together by this session's program out of: Hy Hx Gt Gv He. -/
import Derived.Test.YtanabbjakacgbaaDoorM12
import Derived.Test.YtanabbjakacgbaaDoorM8
namespace Go.Proofs.YtanabbjakacgbaaDoor.Sp
open Go.RowKit Go.Proofs.YtanabbjakacgbaaDoorW.PrintWords Go.Proofs.YtanabbjakacgbaaDoorW.PrintLast Go.Proofs.YtanabbjakacgbaaDoorW.PrintMore Go.Proofs.YtanabbjakacgbaaDoor.PM
set_option linter.unusedVariables false
set_option linter.unusedSimpArgs false
set_option maxRecDepth 100000
attribute [local go_sem] Oper.semAt_some
theorem yield_conv {P : Program} {o : Oper} {a : Act} {w : World} {v : Value} (s t : TypeId) (x : Operand) (ho : o.op = .convert s t x) (u : Value) (hx : a.eval x = u) (hl : (convert s t u).run P w = .ok v w) : Yield P o a w v := by
  unfold Yield execOp
  simp only [ho, hx, Sem.run_bind, Sem.run_pure, Result.andThen_ok, hl]
theorem Fit.at {ps : List (List Int)} (h : Fit ps) (n : Nat) : ∀ b ∈ ps.getD n [], 0 ≤ b ∧ b < 256 := by
  by_cases hn : n < ps.length
  · rw [List.getD_eq_getElem?_getD, List.getElem?_eq_getElem hn]
    exact (h.2 _ (List.getElem_mem hn)).2
  · rw [List.getD_eq_getElem?_getD, List.getElem?_eq_none (by omega)]
    intro b hb
    cases hb
theorem hd_ext {x y : Hd} (h : x = y) : x.t = y.t ∧ x.ps = y.ps := by rw [h]; exact ⟨rfl, rfl⟩
theorem getD_ext {α : Type} (z : α) {p q : List α} (hl : p.length = q.length) (h : ∀ j, j < p.length → p.getD j z = q.getD j z) : p = q := by
  apply List.ext_getElem hl
  intro j h1 h2
  have := h j h1
  rwa [List.getD_eq_getElem?_getD, List.getD_eq_getElem?_getD, List.getElem?_eq_getElem h1, List.getElem?_eq_getElem h2] at this
set_option maxHeartbeats 4000000 in
theorem alike_calls (x y : Hx) (w : World) (hx : Rob w x.A x.c x.h.ps) (hy : Rob w y.A y.c y.h.ps) (fx : Fit x.h.ps) (fy : Fit y.h.ps) :
    Calls Tryd.prog 49 #[.agg (cH x), .agg (cH y)] w fun e w' => e = .returned (.bool (decide (x.h = y.h))) ∧ Below w.heap.size w w' := by
  obtain ⟨g, hg⟩ : ∃ g, g = w.heap.size := ⟨_, rfl⟩
  obtain ⟨wb, hwb⟩ : ∃ wb, wb = (w.alloc (.cells (cH x) 91)).alloc (.cells (cH y) 91) := ⟨_, rfl⟩
  have h0 : wb.heap[g]? = some (.cells (cH x) 91 (0, 0)) := by rw [hwb, h_old (by simp only [size_alloc]; omega)]; exact h_new hg
  have h1 : wb.heap[g + 1]? = some (.cells (cH y) 91 (0, 0)) := by rw [hwb]; exact h_new (by rw [size_alloc, hg])
  have hb : Below w.heap.size w wb := by rw [hwb]; exact below_alloc (below_alloc (Below.refl _ _) _) _
  obtain ⟨⟨tx, px⟩, hxh⟩ : ∃ h, x.h = h := ⟨_, rfl⟩
  obtain ⟨⟨ty, py⟩, hyh⟩ : ∃ h, y.h = h := ⟨_, rfl⟩
  rw [hxh] at hx fx
  rw [hyh] at hy fy
  obtain ⟨A1, c1, q1⟩ := x
  obtain ⟨A2, c2, q2⟩ := y
  dsimp only at hxh hyh hx hy fx fy
  subst hxh hyh
  have hl1 : px.length ≤ 1000 := fx.1
  have hl2 : py.length ≤ 1000 := fy.1
  have HB := Aside0.mk (⟨h0, h1, hb, hx.below hb, hy.below hb, fx, fy⟩ : _ ∧ _ ∧ _ ∧ _ ∧ _ ∧ _ ∧ _)
  have hcc : ∀ W, Below wb.heap.size wb W → W.cell? ⟨g, 0, none⟩ = some (.int .u8 tx) ∧ W.cell? ⟨g, 1, none⟩ = some (.slice A1 px.length c1) ∧ W.cell? ⟨g + 1, 0, none⟩ = some (.int .u8 ty) ∧ W.cell? ⟨g + 1, 1, none⟩ = some (.slice A2 py.length c2) := fun W hW =>
    ⟨(cell_of_row W g 0 _ _ _ (at_next h0 hW)).trans rfl, (cell_of_row W g 1 _ _ _ (at_next h0 hW)).trans rfl, (cell_of_row W (g + 1) 0 _ _ _ (at_next h1 hW)).trans rfl, (cell_of_row W (g + 1) 1 _ _ _ (at_next h1 hW)).trans rfl⟩
  obtain ⟨hc0, hc1, hd0, hd1⟩ := hcc wb (Below.refl _ _)
  have HCC := Aside0.mk hcc
  have HWB := Aside0.mk (show (w.alloc (.cells #[.int .u8 tx, .slice A1 px.length c1] 91)).alloc (.cells #[.int .u8 ty, .slice A2 py.length c2] 91) = wb from hwb.symm)
  have HG := Aside0.mk hg
  show Calls Tryd.prog 49 #[.agg #[.int .u8 tx, .slice A1 px.length c1], .agg #[.int .u8 ty, .slice A2 py.length c2]] w _
  clear h0 h1 hb hwb hg hcc hx hy fx fy
  by_cases ht : tx = ty
  · subst ht
    by_cases hl : px.length = py.length
    · have hlb : ((px.length : Int) == (py.length : Int)) = true := by simp [hl]
      have HLE := Aside0.mk hl
      clear hl
      go_enter Tryd.func49, Tryd.ntmps49
      go_wp2_with (first
        | (rw [HWB.out, ← HG.out]))
      go_loopw [5] (fun i wr => ∃ n : Nat, i = .int .i64 (n : Int) ∧ n ≤ px.length ∧ (∀ j, j < n → px.getD j [] = py.getD j []) ∧ Aside0 (Below wb.heap.size wb wr)) (fun i _ => px.length - (intOf i).toNat)
      case atStart => exact ⟨0, rfl, by omega, fun j hj => absurd hj (by omega), ⟨Below.refl _ _⟩⟩
      case round =>
        clear hc0 hc1 hd0 hd1
        obtain ⟨n, rfl, hn, hag, HR⟩ := hrel
        obtain ⟨hc0, hc1, hd0, hd1⟩ := HCC.out wr HR.out
        have HAG := Aside0.mk hag
        clear hag
        by_cases c5 : n < px.length
        · have c5b : (n : Int) < (px.length : Int) := by omega
          have c5c := eq_true c5b
          have c5d : ((0 : Int) ≤ (n : Int)) = True := eq_true (by omega)
          have c5e : ((n : Int) < (py.length : Int)) = True := eq_true (by have := HLE.out; omega)
          obtain ⟨ad1, B1, d1, e1, k1, v1⟩ := part_str (HB.out.2.2.2.1.below HR.out) HB.out.2.2.2.2.2.1 n c5
          obtain ⟨ad2, B2, d2, e2, k2, v2⟩ := part_str (HB.out.2.2.2.2.1.below HR.out) HB.out.2.2.2.2.2.2 n (by have := HLE.out; omega)
          subst e1 e2
          obtain ⟨s1, hs1⟩ : ∃ s, strB (px.getD n []) = s := ⟨_, rfl⟩
          obtain ⟨s2, hs2⟩ : ∃ s, strB (py.getD n []) = s := ⟨_, rfl⟩
          obtain ⟨n1, hn1⟩ : ∃ m, (px.getD n []).length = m := ⟨_, rfl⟩
          obtain ⟨n2, hn2⟩ : ∃ m, (py.getD n []).length = m := ⟨_, rfl⟩
          rw [hs1, hn1] at v1
          rw [hs2, hn2] at v2
          rw [hn1] at k1
          rw [hn2] at k2
          have HV := Aside0.mk (⟨k1, v1, k2, v2, hs1, hs2⟩ : _ ∧ _ ∧ _ ∧ _ ∧ _ ∧ _)
          clear k1 v1 k2 v2 hs1 hs2 hn1 hn2
          go_wp2
          refine start_ (n := 13) (S := fun w' => Below wr.heap.size wr w') (ds := []) #[false, false, false, false, false, false, false, false, false, false, false, false, false] (by kernel_rfl) rfl rfl (Below.refl _ _).drew (fun hHeld => ?_)
          refine pure_ (i := 0) (N := some 27) (v := ?_) (a' := ?_) #[true, false, false, false, false, false, false, false, false, false, false, false, false] rfl rfl (by kernel_rfl) (fun _ _ _ h => h) (Or.inl ⟨by rfl, ?_⟩) ?_ ?_
          rotate_left
          · intro w'
            go_simp
            with_reducible rfl
          rotate_left
          · simp only [Act.put, List.setIfInBounds_toArray, List.set_cons_zero, List.set_cons_succ, i64_w, i32_w]
            rfl
          refine take_ (i := 1) (N := some 28) (v := ?_) (a' := ?_) #[true, true, false, false, false, false, false, false, false, false, false, false, false] rfl rfl (by kernel_rfl) (fun _ _ _ h => h) (Or.inl ⟨by rfl, ?_⟩) hHeld ?_ ?_
          rotate_left
          · intro w' hS
            have hx := (hS.cell (World.block_lt_of_cell? _ _ hc1)).trans hc1
            go_simp
            with_reducible rfl
          rotate_left
          · simp only [Act.put, List.setIfInBounds_toArray, List.set_cons_zero, List.set_cons_succ, i64_w, i32_w]
            rfl
          refine pure_ (i := 2) (N := some 29) (v := ?_) (a' := ?_) #[true, true, true, false, false, false, false, false, false, false, false, false, false] rfl rfl (by kernel_rfl) (fun _ _ _ h => h) (Or.inl ⟨by rfl, ?_⟩) ?_ ?_
          rotate_left
          · intro w'
            go_simp
            with_reducible rfl
          rotate_left
          · simp only [Act.put, List.setIfInBounds_toArray, List.set_cons_zero, List.set_cons_succ, i64_w, i32_w]
            rfl
          refine pure_ (i := 3) (N := some 30) (v := ?_) (a' := ?_) #[true, true, true, true, false, false, false, false, false, false, false, false, false] rfl rfl (by kernel_rfl) (fun _ _ _ h => h) (Or.inl ⟨by rfl, ?_⟩) ?_ ?_
          rotate_left
          · intro w'
            go_simp
            with_reducible rfl
          rotate_left
          · simp only [Act.put, List.setIfInBounds_toArray, List.set_cons_zero, List.set_cons_succ, i64_w, i32_w]
            rfl
          refine take_ (i := 4) (N := some 31) (v := ?_) (a' := ?_) #[true, true, true, true, true, false, false, false, false, false, false, false, false] rfl rfl (by kernel_rfl) (fun _ _ _ h => h) (Or.inl ⟨by rfl, ?_⟩) hHeld ?_ ?_
          rotate_left
          · intro w' hS
            have hx := (hS.cell (World.block_lt_of_cell? _ _ HV.out.1)).trans HV.out.1
            go_simp
            with_reducible rfl
          rotate_left
          · simp only [Act.put, List.setIfInBounds_toArray, List.set_cons_zero, List.set_cons_succ, i64_w, i32_w]
            rfl
          refine take_ (i := 5) (N := some 32) (v := .string (s1)) (a' := ?_) #[true, true, true, true, true, true, false, false, false, false, false, false, false] rfl rfl (by kernel_rfl) (fun _ _ _ h => h) (Or.inl ⟨by rfl, fun w' hS => yield_conv 50 9 _ rfl _ rfl (HV.out.2.1 w' hS)⟩) hHeld ?_ ?_
          rotate_left
          · simp only [Act.put, List.setIfInBounds_toArray, List.set_cons_zero, List.set_cons_succ, i64_w, i32_w]
            rfl
          refine pure_ (i := 6) (N := some 33) (v := ?_) (a' := ?_) #[true, true, true, true, true, true, true, false, false, false, false, false, false] rfl rfl (by kernel_rfl) (fun _ _ _ h => h) (Or.inl ⟨by rfl, ?_⟩) ?_ ?_
          rotate_left
          · intro w'
            go_simp
            with_reducible rfl
          rotate_left
          · simp only [Act.put, List.setIfInBounds_toArray, List.set_cons_zero, List.set_cons_succ, i64_w, i32_w]
            rfl
          refine take_ (i := 7) (N := some 34) (v := ?_) (a' := ?_) #[true, true, true, true, true, true, true, true, false, false, false, false, false] rfl rfl (by kernel_rfl) (fun _ _ _ h => h) (Or.inl ⟨by rfl, ?_⟩) hHeld ?_ ?_
          rotate_left
          · intro w' hS
            have hx := (hS.cell (World.block_lt_of_cell? _ _ hd1)).trans hd1
            go_simp
            with_reducible rfl
          rotate_left
          · simp only [Act.put, List.setIfInBounds_toArray, List.set_cons_zero, List.set_cons_succ, i64_w, i32_w]
            rfl
          refine pure_ (i := 8) (N := some 35) (v := ?_) (a' := ?_) #[true, true, true, true, true, true, true, true, true, false, false, false, false] rfl rfl (by kernel_rfl) (fun _ _ _ h => h) (Or.inl ⟨by rfl, ?_⟩) ?_ ?_
          rotate_left
          · intro w'
            go_simp
            with_reducible rfl
          rotate_left
          · simp only [Act.put, List.setIfInBounds_toArray, List.set_cons_zero, List.set_cons_succ, i64_w, i32_w]
            rfl
          refine pure_ (i := 9) (N := some 36) (v := ?_) (a' := ?_) #[true, true, true, true, true, true, true, true, true, true, false, false, false] rfl rfl (by kernel_rfl) (fun _ _ _ h => h) (Or.inl ⟨by rfl, ?_⟩) ?_ ?_
          rotate_left
          · intro w'
            go_simp
            with_reducible rfl
          rotate_left
          · simp only [Act.put, List.setIfInBounds_toArray, List.set_cons_zero, List.set_cons_succ, i64_w, i32_w]
            rfl
          refine take_ (i := 10) (N := some 37) (v := ?_) (a' := ?_) #[true, true, true, true, true, true, true, true, true, true, true, false, false] rfl rfl (by kernel_rfl) (fun _ _ _ h => h) (Or.inl ⟨by rfl, ?_⟩) hHeld ?_ ?_
          rotate_left
          · intro w' hS
            have hx := (hS.cell (World.block_lt_of_cell? _ _ HV.out.2.2.1)).trans HV.out.2.2.1
            go_simp
            with_reducible rfl
          rotate_left
          · simp only [Act.put, List.setIfInBounds_toArray, List.set_cons_zero, List.set_cons_succ, i64_w, i32_w]
            rfl
          refine take_ (i := 11) (N := some 38) (v := .string (s2)) (a' := ?_) #[true, true, true, true, true, true, true, true, true, true, true, true, false] rfl rfl (by kernel_rfl) (fun _ _ _ h => h) (Or.inl ⟨by rfl, fun w' hS => yield_conv 50 9 _ rfl _ rfl (HV.out.2.2.2.1 w' hS)⟩) hHeld ?_ ?_
          rotate_left
          · simp only [Act.put, List.setIfInBounds_toArray, List.set_cons_zero, List.set_cons_succ, i64_w, i32_w]
            rfl
          refine pure_ (i := 12) (N := some 39) (v := ?_) (a' := ?_) #[true, true, true, true, true, true, true, true, true, true, true, true, true] rfl rfl (by kernel_rfl) (fun _ _ _ h => h) (Or.inl ⟨by rfl, ?_⟩) ?_ ?_
          rotate_left
          · intro w'
            go_simp
            with_reducible rfl
          rotate_left
          · simp only [Act.put, List.setIfInBounds_toArray, List.set_cons_zero, List.set_cons_succ, i64_w, i32_w]
            rfl
          have H5 := Aside0.mk (HR.out.trans (hHeld.mono HR.out.size))
          refine done_ (by kernel_rfl) ?_
          clear hHeld hc0 hc1 hd0 hd1
          by_cases hk1 : (s1).toList = (s2).toList
          · have hkb : (!(s1.toList == s2.toList)) = false := by simp [hk1]
            have HK := Aside0.mk (strB_inj (HB.out.2.2.2.2.2.1.at n) (HB.out.2.2.2.2.2.2.at n) (by rw [HV.out.2.2.2.2.1, HV.out.2.2.2.2.2]; exact toList_inj.1 hk1))
            rw [hkb]
            clear hk1 hkb
            go_wp2
            refine ⟨⟨n + 1, by simp, by omega, fun j hj => ?_, H5⟩, by simp [intOf]; omega⟩
            by_cases hjn : j = n
            · rw [hjn]; exact HK.out
            · exact HAG.out j (by omega)
          · have hkb : (!(s1.toList == s2.toList)) = true := by simp [hk1]
            have HK := Aside0.mk (show ¬ px = py from fun e => hk1 (by rw [← HV.out.2.2.2.2.1, ← HV.out.2.2.2.2.2, e]))
            have HQ := Aside0.mk (HB.out.2.2.1.trans (H5.out.mono HB.out.2.2.1.size))
            rw [hkb]
            clear hk1 hkb
            go_wp2
            go_ret
            refine ⟨?_, HQ.out⟩
            rw [decide_eq_false (fun e => HK.out (hd_ext e).2)]
            rfl
        · obtain rfl : n = px.length := by omega
          have HQ := Aside0.mk (HB.out.2.2.1.trans (HR.out.mono HB.out.2.2.1.size))
          go_wp2
          go_ret
          refine ⟨?_, HQ.out⟩
          rw [decide_eq_true (show (⟨tx, px⟩ : Hd) = ⟨tx, py⟩ by rw [getD_ext [] HLE.out HAG.out])]
          rfl
    · have hlb : ((px.length : Int) == (py.length : Int)) = false := by simp; omega
      have HLE := Aside0.mk hl
      clear hl
      go_enter Tryd.func49, Tryd.ntmps49
      go_wp2_with (first
        | (rw [HWB.out, ← HG.out]))
      go_ret
      refine ⟨?_, HB.out.2.2.1⟩
      rw [decide_eq_false (fun e => HLE.out (congrArg List.length (hd_ext e).2))]
      rfl
  · have htb : (tx == ty) = false := by simp [ht]
    have HT := Aside0.mk ht
    clear ht
    go_enter Tryd.func49, Tryd.ntmps49
    go_wp2_with (first
      | (rw [HWB.out, ← HG.out]))
    go_ret
    refine ⟨?_, HB.out.2.2.1⟩
    rw [decide_eq_false (fun e => HT.out (hd_ext e).1)]
    rfl
end Go.Proofs.YtanabbjakacgbaaDoor.Sp
namespace Go.Proofs.YtanabbjakacgbaaDoor.Sp
open Go.RowKit Go.Proofs.YtanabbjakacgbaaDoorW.PrintWords Go.Proofs.YtanabbjakacgbaaDoorW.PrintLast Go.Proofs.YtanabbjakacgbaaDoorW.PrintMore Go.Proofs.YtanabbjakacgbaaDoor.PM
set_option linter.unusedVariables false
set_option linter.unusedSimpArgs false
set_option maxRecDepth 100000
attribute [local go_sem] Oper.semAt_some
theorem le_H {w w' : World} {ad : Addr} {x : Hx} (hc : ∀ j u, (cH x).toList[j]? = some u → w.cell? (ad.add j) = some u) (hb : Below w.heap.size w w') (m : Nat) : (loadVar 91 ad).run Tryd.prog (w'.drewN m) = .ok (.agg (cH x)) (w'.drewN m) :=
  load_el hc hb 91 Tryd.underlying91 rfl (by kernel_rfl) m
def zD : Hd := ⟨0, []⟩
theorem zeroB_succ {l : List Hd} {n : Nat} (hn : n < l.length) : zeroB (l.take (n + 1)) = (zeroB (l.take n) || decide (sumD (l.getD n zD) = zS)) := by
  rw [zeroB, take_succ' zD hn, List.any_append, zeroB]
  simp
theorem zeroB_true {l : List Hd} {n : Nat} (hn : n < l.length) (h : sumD (l.getD n zD) = zS) : zeroB l = true := by
  rw [zeroB, List.any_eq_true]
  exact ⟨_, getD_mem' hn, decide_eq_true h⟩
theorem sumX_calls {C : Array Value} {x : Hx} (hC : C = cH x) (ht : 0 ≤ x.h.t ∧ x.h.t < 256) (hf : Fit x.h.ps) (w : World) (hr : Rob w x.A x.c x.h.ps) (s : Sm) (hs : sumD x.h = s) :
    Calls Tryd.prog 48 #[.agg C] w fun e w' => e = .returned (.agg (cS s)) ∧ Below w.heap.size w w' := by
  subst hC hs
  exact sum4_calls x.h ht hf x.A x.c w hr
set_option maxHeartbeats 4000000 in
theorem Zero_calls (hs : List Hd) (A : Option Addr) (c : Nat) (w : World) (hr : Hrd w A c hs) (hl : hs.length ≤ 100000) :
    Calls Tryd.prog 50 #[.slice A hs.length c] w fun e w' => e = .returned (.bool (zeroB hs)) ∧ Below w.heap.size w w' := by
  have HS := Aside0.mk hr
  clear hr
  go_enter Tryd.func50, Tryd.ntmps50
  go_wp2
  go_loopw [3] (fun i wr => ∃ n : Nat, i = .int .i64 (n : Int) ∧ n ≤ hs.length ∧ Aside0 (zeroB (hs.take n) = false) ∧ Aside0 (Below w.heap.size w wr)) (fun i _ => hs.length - (intOf i).toNat)
  case atStart => exact ⟨0, rfl, by omega, ⟨rfl⟩, ⟨Below.refl _ _⟩⟩
  case round =>
    obtain ⟨n, rfl, hn, HT, HR⟩ := hrel
    by_cases c5 : n < hs.length
    · have c5b : (n : Int) < (hs.length : Int) := by omega
      have c5c := eq_true c5b
      have c5d : ((0 : Int) ≤ (n : Int)) = True := eq_true (by omega)
      obtain ⟨ad, x, eA, hxh, hat, hxt, hxf, hxr⟩ := HS.out.at n c5
      subst eA
      have HX := Aside0.mk (⟨hxh, hat, hxt, hxf, hxr.below HR.out⟩ : _ ∧ _ ∧ _ ∧ _ ∧ _)
      clear hxh hat hxt hxf hxr
      obtain ⟨C, hC⟩ : ∃ C, C = cH x := ⟨_, rfl⟩
      have HC := Aside0.mk hC
      have hld := le_H HX.out.2.1 HR.out 0
      rw [← hC] at hld
      clear hC
      by_cases h0 : sumD x.h = zS
      · have HZ := Aside0.mk h0
        clear h0
        go_wp2_with (first
          | ((with_reducible refine gate_dst (N := 13) rfl ?_); (refine wpList_loadv rfl 91 _ rfl _ rfl _ hld ?_))
          | (go_at_call 48; (with_reducible refine (sumX_calls HC.out HX.out.2.2.1 HX.out.2.2.2.1 wr HX.out.2.2.2.2 zS HZ.out).mono ?_); rintro e w3 ⟨rfl, hb3⟩; have H3 := Aside0.mk (below_tr HR.out hb3 HR.out.size); clear hb3)
          | ((with_reducible refine gate_dst (N := 15) rfl ?_); (refine wpList_built0 rfl 27 rfl (cS zS) (by kernel_rfl) ?_))
          | ((with_reducible refine gate_dst (N := 16) rfl ?_); refine wpList_eql rfl _ _ _ _ rfl _ _ rfl rfl gt_S _ (fun w => eqS_r w zS) ?_))
        go_ret
        refine ⟨?_, H3.out⟩
        rw [zeroB_true c5 (by show sumD (hs.getD n ⟨0, []⟩) = zS; rw [HX.out.1]; exact HZ.out)]
        rfl
      · obtain ⟨s, hs0⟩ : ∃ s, sumD x.h = s := ⟨_, rfl⟩
        have HZ := Aside0.mk (And.intro hs0 (show ∀ w, (Op.equal 27 (.agg (cS s)) (.agg (cS zS))).run Tryd.prog w = .ok false w from fun w => by rw [eqS, decide_eq_false (by rw [← hs0]; exact h0)]))
        have hz1 : zeroB (hs.take (n + 1)) = false := by
          rw [zeroB_succ c5, HT.out, show hs.getD n zD = x.h from HX.out.1, decide_eq_false h0]; rfl
        have HZ1 := Aside0.mk hz1
        clear h0 hs0 hz1
        go_wp2_with (first
          | ((with_reducible refine gate_dst (N := 13) rfl ?_); (refine wpList_loadv rfl 91 _ rfl _ rfl _ hld ?_))
          | (go_at_call 48; (with_reducible refine (sumX_calls HC.out HX.out.2.2.1 HX.out.2.2.2.1 wr HX.out.2.2.2.2 s HZ.out.1).mono ?_); rintro e w3 ⟨rfl, hb3⟩; have H3 := Aside0.mk (below_tr HR.out hb3 HR.out.size); clear hb3)
          | ((with_reducible refine gate_dst (N := 15) rfl ?_); (refine wpList_built0 rfl 27 rfl (cS zS) (by kernel_rfl) ?_))
          | ((with_reducible refine gate_dst (N := 16) rfl ?_); refine wpList_eql rfl _ _ _ _ rfl _ _ rfl rfl gt_S _ HZ.out.2 ?_))
        exact ⟨⟨n + 1, by simp, by omega, HZ1, H3⟩, by simp [intOf]; omega⟩
    · obtain rfl : n = hs.length := by omega
      have HQ := HR
      have hz : zeroB hs = false := by have := HT.out; rwa [List.take_length] at this
      have HZ := Aside0.mk hz
      clear hz
      go_wp2
      go_ret
      refine ⟨?_, HQ.out⟩
      rw [HZ.out]
      rfl
end Go.Proofs.YtanabbjakacgbaaDoor.Sp
namespace Go.Proofs.YtanabbjakacgbaaDoor.Grow
open Go Go.RowKit Go.Proofs.YtanabbjakacgbaaDoorW.PrintWords Go.Proofs.YtanabbjakacgbaaDoorW.PrintLast
set_option linter.unusedVariables false
set_option linter.unusedSimpArgs false
end Go.Proofs.YtanabbjakacgbaaDoor.Grow
namespace Go.Proofs.YtanabbjakacgbaaDoor.Grow
open Go Go.RowKit Go.Proofs.YtanabbjakacgbaaDoorW.PrintWords Go.Proofs.YtanabbjakacgbaaDoorW.PrintLast
set_option linter.unusedVariables false
set_option linter.unusedSimpArgs false
section
variable {P : Program} {ops : Array Oper} {Q : Exit → Act → World → Prop} {S : World → Prop} {ds : List Nat}
def growNB (ops : Array Oper) (n : Nat) (l0 l1 : Array Bool) : Bool :=
  decide (n < ops.size) && decide (l0.size = ops.size) && decide (l1.size = ops.size) &&
  ((List.range n).all fun i => l0.getD i true || match ops[i]? with
    | some o => o.dst.isSome && o.guard.isNone && (o.after.all fun e => !Region.binds .any e || l0.getD e.on false || decide (e.on < i))
    | none => false) &&
  ((List.range n).all fun i => (List.range n).all fun k => decide (i = k) || decide (dstN ops i ≠ dstN ops k)) &&
  ((List.range ops.size).all fun i => decide (i < n) || l0.getD i true || (List.range n).all fun j => l0.getD j true || Region.reachB .any ops j 8 i) && Region.closedB .any ops l0 &&
  ((List.range ops.size).all fun i => l1.getD i false == (decide (i < n) || l0.getD i false))
structure GrowN (ops : Array Oper) (n : Nat) (l0 l1 : Array Bool) : Prop where
  lt : n < ops.size
  sz : l0.size = ops.size
  sz1 : l1.size = ops.size
  at_ : ∀ i, i < n → l0.getD i true = false → ∃ o, ops[i]? = some o ∧ o.dst = some (dstN ops i) ∧ o.guard = none ∧ (∀ e ∈ o.after, Region.binds .any e = true → l0.getD e.on false = true ∨ e.on < i)
  dis : ∀ j k, j < n → k < n → dstN ops j = dstN ops k → j = k
  wait : ∀ i, i < ops.size → l0.getD i true = false → ¬ i < n → ∀ j, j < n → l0.getD j true = false → Region.reachB .any ops j 8 i = true
  closed : ListedClosed .any ops l0
  fin : ∀ i, i < ops.size → l1.getD i false = (decide (i < n) || l0.getD i false)
theorem growNB_spec {n : Nat} {l0 l1 : Array Bool} (h : growNB ops n l0 l1 = true) : GrowN ops n l0 l1 := by
  simp only [growNB, Bool.and_eq_true, decide_eq_true_eq, List.all_eq_true, List.mem_range, Bool.or_eq_true, beq_iff_eq] at h
  obtain ⟨⟨⟨⟨⟨⟨⟨h1, h2⟩, h3⟩, h4⟩, h5⟩, h6⟩, h8⟩, h7⟩ := h
  refine ⟨h1, h2, h3, fun i hi hu => ?_, fun j k hj hk e => ?_, fun i hi hu hn j hj huj => ?_, Region.closedB_spec h8, fun i hi => h7 i hi⟩
  · rcases h4 i hi with h | h
    · rw [hu] at h; cases h
    · cases ho : ops[i]? with
      | none => rw [ho] at h; cases h
      | some o =>
        rw [ho] at h
        simp only [Bool.and_eq_true] at h
        obtain ⟨⟨a, b⟩, c⟩ := h
        obtain ⟨N, hN⟩ := Option.isSome_iff_exists.1 a
        refine ⟨o, rfl, by simp [dstN, ho, hN], Option.isNone_iff_eq_none.1 b, fun e he hb => ?_⟩
        have := Array.all_eq_true_iff_forall_mem.1 c e he
        rw [hb] at this
        simpa using this
  · rcases h5 j hj k hk with h | h
    · exact h
    · exact absurd e h
  · rcases h6 i hi with (h | h) | h
    · exact absurd h hn
    · rw [hu] at h; cases h
    · rcases h j hj with h | h
      · rw [huj] at h; cases h
      · exact h
theorem last_of_grow3 {n fe : Nat} {l0 l1 : Array Bool} (G : GrowN ops n l0 l1) {a0 : Act} {w0 : World} (v0 : Nat → Value) (F : Nat → Value → World → Prop) (M : Nat → Bool) (hS : ∀ w, Below w0.heap.size w0 w → S w) (hmono : ∀ i v w w', F i v w → Below w.heap.size w w' → F i v w')
    (hstep : ∀ i o, i < n → l0.getD i true = false → ops[i]? = some o → ∀ vs w, (∀ j, j < n → l0.getD j true = true → vs j = v0 j) → Below w0.heap.size w0 w → (∀ e ∈ o.after, Region.binds .any e = true → e.on < i → l0.getD e.on true = false → F e.on (vs e.on) w) → ∀ K : Act → World → Prop, (∀ v w', F i v w' → Below w.heap.size w w' → (M i = true → ∀ b, blk v = some b → w.heap.size ≤ b ∧ b < w'.heap.size) → K ((ap ops n a0 vs).put o.dst v) w') → o.wp P (ap ops n a0 vs) w K Q)
    (hend : ∀ vs w, (∀ j, j < n → l0.getD j true = true → vs j = v0 j) → Below w0.heap.size w0 w → (∀ i, i < n → l0.getD i true = false → F i (vs i) w) → (∀ i j, i < n → l0.getD i true = false → j < n → l0.getD j true = false → i ≠ j → M i = true → M j = true → ∀ b, blk (vs i) = some b → blk (vs j) ≠ some b) → wpAnyLast P .any ops Q S ds fe l1 (ap ops n a0 vs) w) :
    ∀ (f : Nat) (l : Array Bool) (vs : Nat → Value) (w : World), (List.range n).countP (fun i => !l.getD i false) = f → l.size = ops.size → ListedClosed .any ops l → (∀ j, ¬ (j < n ∧ l0.getD j true = false) → l[j]? = l0[j]?) → (∀ j, j < n → l0.getD j true = true → vs j = v0 j) → (∀ i, i < n → l0.getD i true = false → l.getD i false = true → F i (vs i) w) → Below w0.heap.size w0 w →
      (∀ i, i < n → l0.getD i true = false → l.getD i false = true → M i = true → ∀ b, blk (vs i) = some b → b < w.heap.size) → (∀ i j, i < n → l0.getD i true = false → j < n → l0.getD j true = false → l.getD i false = true → l.getD j false = true → i ≠ j → M i = true → M j = true → ∀ b, blk (vs i) = some b → blk (vs j) ≠ some b) →
      wpAnyLast P .any ops Q S ds (f + fe) l (ap ops n a0 vs) w := by
  intro f
  induction f with
  | zero =>
    intro l vs w hf hsz hcl hl hv hF hb hD1 hD2
    have hall : ∀ i, i < n → l.getD i false = true := fun i hi => by
      have := List.countP_eq_zero.1 hf i (List.mem_range.2 hi)
      simpa using this
    have e : l = l1 := by
      apply Array.ext (hsz.trans G.sz1.symm)
      intro i h1 h2
      have h3 : i < ops.size := by omega
      have h4 := G.fin i h3
      have h5 : l.getD i false = l1.getD i false := by
        rw [h4]
        by_cases hi : i < n
        · rw [hall i hi]; simp [hi]
        · rw [getD_same (hl i (fun h => hi h.1)), decide_eq_false hi, Bool.false_or]
      simpa [h1, h2] using h5
    subst e
    rw [Nat.zero_add]
    exact hend vs w hv hb (fun i hi hu => hF i hi hu (hall i hi)) (fun i j hi hui hj huj => hD2 i j hi hui hj huj (hall i hi) (hall j hj))
  | succ f ih =>
    intro l vs w hf hsz hcl hl hv hF hb hD1 hD2
    have hsz2 : ∀ i, i < n → i < l.size := fun i hi => by rw [hsz]; have := G.lt; omega
    have hdone : ∀ j, l0.getD j false = true → l.getD j false = true := fun j hj => by
      by_cases hi : j < n ∧ l0.getD j true = false
      · have h1 : j < l0.size := by rw [G.sz]; have := G.lt; omega
        have hu := hi.2
        simp [h1] at hu hj
        rw [hu] at hj; cases hj
      · rw [getD_same (hl j hi)]; exact hj
    have hun0 : ∀ j, j < n → l.getD j false = false → l0.getD j true = false := fun j hj h => by
      by_cases hi : j < n ∧ l0.getD j true = false
      · exact hi.2
      · have h2 := getD_same (d := true) (hl j hi)
        rw [← h2]
        simp [hsz2 j hj] at h ⊢
        exact h
    have hex : ∃ i, i < n ∧ l.getD i false = false := by
      have h0 : 0 < (List.range n).countP (fun i => !l.getD i false) := by omega
      obtain ⟨i, hi, hp⟩ := List.countP_pos_iff.1 h0
      exact ⟨i, List.mem_range.1 hi, by simpa using hp⟩
    have hready : Region.ready .any ops l ≠ [] := by
      have hmin : ∀ d i, i ≤ d → i < n → l.getD i false = false → Region.ready .any ops l ≠ [] := by
        intro d
        induction d with
        | zero =>
          intro i hid hi hu hne
          obtain ⟨o, ho, _, _, haf⟩ := G.at_ i hi (hun0 i hi hu)
          have : i ∈ Region.ready .any ops l := mem_ready.2 ⟨getD_in (hsz2 i hi) hu, o, ho, fun e he hbd => by
            rcases haf e he hbd with h | h
            · exact hdone _ h
            · omega⟩
          rw [hne] at this
          cases this
        | succ d ihd =>
          intro i hid hi hu
          obtain ⟨o, ho, _, _, haf⟩ := G.at_ i hi (hun0 i hi hu)
          by_cases hc : ∃ j, j < i ∧ l.getD j false = false
          · obtain ⟨j, hj, hju⟩ := hc
            exact ihd j (by omega) (by omega) hju
          · intro hne
            have : i ∈ Region.ready .any ops l := mem_ready.2 ⟨getD_in (hsz2 i hi) hu, o, ho, fun e he hbd => by
              rcases haf e he hbd with h | h
              · exact hdone _ h
              · cases h2 : l.getD e.on false with
                | true => rfl
                | false => exact absurd ⟨e.on, h, h2⟩ hc⟩
            rw [hne] at this
            cases this
      obtain ⟨i, hi, hu⟩ := hex
      exact hmin i i (Nat.le_refl _) hi hu
    obtain ⟨i0, hi0, hu0⟩ := hex
    rw [show f + 1 + fe = (f + fe) + 1 by omega]
    refine ⟨fun h => absurd h hready, fun i hi => ?_⟩
    obtain ⟨hun, o, ho, hdep⟩ := mem_ready.1 hi
    have hilt : i < ops.size := (Array.getElem?_eq_some_iff.1 ho).1
    have hin : i < n := by
      by_cases hin : i < n
      · exact hin
      · have hu : l0.getD i true = false := by rw [← getD_same (hl i (fun h => hin h.1))]; exact hun
        exact absurd hi (Region.reach_not_ready hcl (G.wait i hilt hu hin i0 hi0 (hun0 i0 hi0 hu0)) (by rw [← hu0]; have := hsz2 i0 hi0; simp [this]))
    have hui := hun0 i hin (getD_both hun)
    obtain ⟨o', ho', hdst, hgd, haf⟩ := G.at_ i hin hui
    obtain rfl : o = o' := Option.some.inj (ho.symm.trans ho')
    refine wpOp_step ho (fun K hK => ?_)
    rw [if_pos (by unfold Region.wanted; rw [hgd])]
    refine hstep i o hin hui ho vs w hv hb (fun e he hbd h1 h2 => hF e.on (by omega) h2 (hdep e he hbd)) K (fun v w' hvv hw' hM => hK _ _ ⟨fun _ _ => hS _ (hb.trans (hw'.mono hb.size)), ?_⟩)
    rw [hdst, ap_put hin G.dis]
    refine ih (l.setIfInBounds i true) (upd vs i v) w' ?_ (by rw [Array.size_setIfInBounds]; exact hsz) (fun j oj hoj hlj e he hbd => ?_) (fun j hj => ?_) (fun j hj hdj => ?_) (fun j hj huj hlj => ?_) (hb.trans (hw'.mono hb.size)) (fun j hj huj hlj hMj b hbj => ?_) (fun j k hj huj hk huk hlj hlk hjk hMj hMk b hbj hbk => ?_)
    · have hc := count_set (p := fun k => !l.getD k false) (q := fun k => !(l.setIfInBounds i true).getD k false) (i := i) (by simp [getD_both hun]) (by simp [hsz2 i hin]) (fun j hji => by show (!_) = (!_); rw [getD_set_ne false (Ne.symm hji)]) n hin
      omega
    · have hmono' : ∀ k, l.getD k false = true → (l.setIfInBounds i true).getD k false = true := fun k hk => by
        by_cases hki : k = i
        · subst hki; simp [hsz2 k hin]
        · rw [getD_set_ne false (Ne.symm hki)]; exact hk
      by_cases hji : j = i
      · subst hji
        obtain rfl : o = oj := Option.some.inj (ho.symm.trans hoj)
        exact hmono' _ (hdep e he hbd)
      · rw [getD_set_ne false (Ne.symm hji)] at hlj
        exact hmono' _ (hcl j oj hoj hlj e he hbd)
    · rw [Array.getElem?_setIfInBounds_ne (fun e => hj (by rw [← e]; exact ⟨hin, hui⟩))]
      exact hl j hj
    · rw [upd, if_neg (fun e => by rw [e, hui] at hdj; cases hdj)]
      exact hv j hj hdj
    · by_cases hji : j = i
      · subst hji
        rw [upd, if_pos rfl]
        exact hvv
      · rw [upd, if_neg hji]
        rw [getD_set_ne false (Ne.symm hji)] at hlj
        exact hmono _ _ _ _ (hF j hj huj hlj) hw'
    · by_cases hji : j = i
      · subst hji
        rw [upd, if_pos rfl] at hbj
        exact (hM hMj b hbj).2
      · rw [upd, if_neg hji] at hbj
        rw [getD_set_ne false (Ne.symm hji)] at hlj
        exact Nat.lt_of_lt_of_le (hD1 j hj huj hlj hMj b hbj) hw'.size
    · by_cases hji : j = i
      · subst hji
        rw [upd, if_pos rfl] at hbj
        rw [upd, if_neg (Ne.symm hjk)] at hbk
        rw [getD_set_ne false hjk] at hlk
        have h1 := (hM hMj b hbj).1
        have h2 := hD1 k hk huk hlk hMk b hbk
        omega
      · rw [upd, if_neg hji] at hbj
        rw [getD_set_ne false (Ne.symm hji)] at hlj
        by_cases hki : k = i
        · subst hki
          rw [upd, if_pos rfl] at hbk
          have h1 := (hM hMk b hbk).1
          have h2 := hD1 j hj huj hlj hMj b hbj
          omega
        · rw [upd, if_neg hki] at hbk
          rw [getD_set_ne false (Ne.symm hki)] at hlk
          exact hD2 j k hj huj hk huk hlj hlk hjk hMj hMk b hbj hbk
theorem makers3_ {n f fe fuel : Nat} {a0 : Act} {w0 : World} (l0 l1 : Array Bool) (hB : growNB ops n l0 l1 = true) (es : List Nat) (hes : (List.range n).map (dstN ops) = es) (hf : (List.range n).countP (fun i => !l0.getD i false) = f) (hfe : fuel = f + fe)
    (F : Nat → Value → World → Prop) (M : Nat → Bool) (hS : ∀ w, Below w0.heap.size w0 w → S w) (hmono : ∀ i v w w', F i v w → Below w.heap.size w w' → F i v w')
    (hstep : ∀ i o, i < n → l0.getD i true = false → ops[i]? = some o → ∀ vs w, (∀ j, j < n → l0.getD j true = true → vs j = a0.tmps.getD (dstN ops j) undef) → Below w0.heap.size w0 w → (∀ e ∈ o.after, Region.binds .any e = true → e.on < i → l0.getD e.on true = false → F e.on (vs e.on) w) → ∀ K : Act → World → Prop, (∀ v w', F i v w' → Below w.heap.size w w' → (M i = true → ∀ b, blk v = some b → w.heap.size ≤ b ∧ b < w'.heap.size) → K (({ a0 with tmps := fil2 a0.tmps vs es } : Act).put o.dst v) w') → o.wp P { a0 with tmps := fil2 a0.tmps vs es } w K Q)
    (hend : ∀ vs w, (∀ j, j < n → l0.getD j true = true → vs j = a0.tmps.getD (dstN ops j) undef) → Below w0.heap.size w0 w → (∀ i, i < n → l0.getD i true = false → F i (vs i) w) → (∀ i j, i < n → l0.getD i true = false → j < n → l0.getD j true = false → i ≠ j → M i = true → M j = true → ∀ b, blk (vs i) = some b → blk (vs j) ≠ some b) → wpAnyLast P .any ops Q S ds fe l1 { a0 with tmps := fil2 a0.tmps vs es } w) :
    wpAnyLast P .any ops Q S ds fuel l0 a0 w0 := by
  have G := growNB_spec hB
  have e : ∀ vs, ({ a0 with tmps := fil2 a0.tmps vs es } : Act) = ap ops n a0 vs := fun vs => by
    rw [← hes, fil2_eq]
    rfl
  have hu : ∀ i, i < n → l0.getD i true = false → l0.getD i false = true → False := fun i hi hu h => by
    have h1 : i < l0.size := by rw [G.sz]; have := G.lt; omega
    simp [h1] at hu h
    rw [hu] at h; cases h
  have H := last_of_grow3 (P := P) (Q := Q) (S := S) (ds := ds) (fe := fe) G (a0 := a0) (w0 := w0) (fun i => a0.tmps.getD (dstN ops i) undef) F M hS hmono
    (fun i o hi hu ho vs w hv hb hd K hK => by
      have := hstep i o hi hu ho vs w hv hb hd K (fun v w' h1 h2 h3 => by rw [e]; exact hK v w' h1 h2 h3)
      rwa [e] at this)
    (fun vs w hv hb hF hD => by have := hend vs w hv hb hF hD; rwa [e] at this)
    f l0 (fun i => a0.tmps.getD (dstN ops i) undef) w0 hf G.sz G.closed (fun _ _ => rfl) (fun _ _ _ => rfl) (fun i hi h1 h => (hu i hi h1 h).elim) (Below.refl _ _) (fun i hi h1 h => (hu i hi h1 h).elim) (fun i j hi h1 _ _ h => (hu i hi h1 h).elim)
  rw [ap_self a0 G.dis] at H
  rwa [hfe]
end
end Go.Proofs.YtanabbjakacgbaaDoor.Grow
namespace Go.Proofs.YtanabbjakacgbaaDoor.Sp
open Go.RowKit Go.Proofs.YtanabbjakacgbaaDoorW.PrintWords Go.Proofs.YtanabbjakacgbaaDoorW.PrintLast Go.Proofs.YtanabbjakacgbaaDoorW.PrintMore Go.Proofs.YtanabbjakacgbaaDoor.PM Go.Proofs.YtanabbjakacgbaaDoor.Grow
set_option linter.unusedVariables false
set_option linter.unusedSimpArgs false
set_option maxRecDepth 100000
attribute [local go_sem] Oper.semAt_some
theorem off_ {P : Program} {ops : Array Oper} {Q : Exit → Act → World → Prop} {oi : Oper} {N : Option Tmp} {a : Act} {w : World} {K : Act → World → Prop} (hw : Region.wanted oi (yielded ops a.tmps) = false) (h : K (a.put N undef) w) : if Region.wanted oi (yielded ops a.tmps) = true then Oper.wp P oi a w K Q else K (a.put N undef) w := by
  rw [hw, if_neg (by decide)]
  exact h
def metF (s1 s2 : Sm) (B : Nat) (i : Nat) (v : Value) (w : World) : Prop :=
  match i with
  | 4 => v = .agg (cS s1)
  | 9 => v = .agg (cS s2)
  | _ => ∃ b, v = .pointer (some ⟨b, 0, none⟩) ∧ B ≤ b ∧ w.heap[b]? = some (.cells (cS zS) 27 (0, 0))
theorem metF_mono (s1 s2 : Sm) (B : Nat) : ∀ i v w w', metF s1 s2 B i v w → Below w.heap.size w w' → metF s1 s2 B i v w' := by
  intro i v w w' h hb
  unfold metF at h ⊢
  split at h
  · exact h
  · exact h
  · obtain ⟨b, h1, h2, h3⟩ := h
    exact ⟨b, h1, h2, at_next h3 hb⟩
theorem met_hit {a b : List Hd} {n m : Nat} (hn : n < a.length) (hm : m < b.length) (h : meetB (a.getD n zD) (b.getD m zD) = true) : metB a b = true := by
  rw [metB, Bool.or_eq_true]
  refine Or.inl (List.any_eq_true.2 ⟨_, getD_mem' hn, List.any_eq_true.2 ⟨_, getD_mem' hm, h⟩⟩)
theorem met_none {a b : List Hd} (h : ∀ j, j < a.length → ∀ k, k < b.length → meetB (a.getD j zD) (b.getD k zD) = false) : metB a b = ((decide (a.length = 0) || decide (b.length = 0)) && (zeroB a || zeroB b)) := by
  have h1 : (a.any fun x => b.any fun y => meetB x y) = false := by
    rw [List.any_eq_false]
    intro x hx
    have h2 : (b.any fun y => meetB x y) = false := by
      rw [List.any_eq_false]
      intro y hy
      obtain ⟨j, hj, rfl⟩ := List.getElem_of_mem hx
      obtain ⟨k, hk, rfl⟩ := List.getElem_of_mem hy
      have := h j hj k hk
      rw [List.getD_eq_getElem?_getD, List.getElem?_eq_getElem hj, List.getD_eq_getElem?_getD, List.getElem?_eq_getElem hk] at this
      simpa using this
    simpa using h2
  rw [metB, h1, Bool.false_or]
theorem alikeX_calls {C1 C2 : Array Value} {x y : Hx} (h1 : C1 = cH x) (h2 : C2 = cH y) (w : World) (hx : Rob w x.A x.c x.h.ps) (hy : Rob w y.A y.c y.h.ps) (fx : Fit x.h.ps) (fy : Fit y.h.ps) (d : Bool) (hd : decide (x.h = y.h) = d) :
    Calls Tryd.prog 49 #[.agg C1, .agg C2] w fun e w' => e = .returned (.bool d) ∧ Below w.heap.size w w' := by
  subst h1 h2 hd
  exact alike_calls x y w hx hy fx fy
theorem ZeroX_calls (hs : List Hd) (A : Option Addr) (c : Nat) (w : World) (hr : Hrd w A c hs) (hl : hs.length ≤ 100000) (z : Bool) (hz : zeroB hs = z) :
    Calls Tryd.prog 50 #[.slice A hs.length c] w fun e w' => e = .returned (.bool z) ∧ Below w.heap.size w w' := by
  subst hz
  exact Zero_calls hs A c w hr hl
set_option maxHeartbeats 4000000 in
theorem Met_calls (a b : List Hd) (A Ab : Option Addr) (ca cb : Nat) (w : World) (hra : Hrd w A ca a) (hrb : Hrd w Ab cb b) (hla : a.length ≤ 100000) (hlb : b.length ≤ 100000) :
    Calls Tryd.prog 18 #[.slice A a.length ca, .slice Ab b.length cb] w fun e w' => e = .returned (.bool (metB a b)) ∧ Below w.heap.size w w' := by
  have HS := Aside0.mk (And.intro hra hrb)
  clear hra hrb
  go_enter Tryd.func18, Tryd.ntmps18
  go_wp2
  go_loopw [5] (fun i wr => ∃ n : Nat, i = .int .i64 (n : Int) ∧ n ≤ a.length ∧ Aside0 (∀ j, j < n → ∀ k, k < b.length → meetB (a.getD j zD) (b.getD k zD) = false) ∧ Aside0 (Below w.heap.size w wr)) (fun i _ => a.length - (intOf i).toNat)
  case atStart => exact ⟨0, rfl, by omega, ⟨fun j hj => absurd hj (by omega)⟩, ⟨Below.refl _ _⟩⟩
  case round =>
    obtain ⟨n, rfl, hn, HT, HR⟩ := hrel
    by_cases c5 : n < a.length
    · have c5b : (n : Int) < (a.length : Int) := by omega
      have c5c := eq_true c5b
      have c5d : ((0 : Int) ≤ (n : Int)) = True := eq_true (by omega)
      go_wp2
      go_loopw [6] (fun i wr => ∃ m : Nat, i = .int .i64 (m : Int) ∧ m ≤ b.length ∧ Aside0 (∀ k, k < m → meetB (a.getD n zD) (b.getD k zD) = false) ∧ Aside0 (Below w.heap.size w wr)) (fun i _ => b.length - (intOf i).toNat)
      case atStart => exact ⟨0, rfl, by omega, ⟨fun j hj => absurd hj (by omega)⟩, HR⟩
      case round =>
        clear HR
        obtain ⟨m, rfl, hm, HU, HR⟩ := hrel
        by_cases c6 : m < b.length
        · have c6b : (m : Int) < (b.length : Int) := by omega
          have c6c := eq_true c6b
          have c6d : ((0 : Int) ≤ (m : Int)) = True := eq_true (by omega)
          obtain ⟨ad1, x, eA, hxh, hat1, hxt, hxf, hxr⟩ := HS.out.1.at n c5
          obtain ⟨ad2, y, eB, hyh, hat2, hyt, hyf, hyr⟩ := HS.out.2.at m c6
          subst eA eB
          obtain ⟨C1, hC1⟩ : ∃ C, C = cH x := ⟨_, rfl⟩
          obtain ⟨C2, hC2⟩ : ∃ C, C = cH y := ⟨_, rfl⟩
          have hl1 := fun W hb => le_H (w' := W) hat1 hb 0
          have hl2 := fun W hb => le_H (w' := W) hat2 hb 0
          rw [← hC1] at hl1
          rw [← hC2] at hl2
          obtain ⟨s1, hs1⟩ : ∃ s, sumD x.h = s := ⟨_, rfl⟩
          obtain ⟨s2, hs2⟩ : ∃ s, sumD y.h = s := ⟨_, rfl⟩
          have HX := Aside0.mk (⟨hC1, hxt, hxf, hxr, hl1, hs1⟩ : C1 = cH x ∧ _ ∧ _ ∧ _ ∧ (∀ W, Below w.heap.size w W → (loadVar 91 (ad1.add (n * 2))).run Tryd.prog W = .ok (.agg C1) W) ∧ sumD x.h = s1)
          have HY := Aside0.mk (⟨hC2, hyt, hyf, hyr, hl2, hs2⟩ : C2 = cH y ∧ _ ∧ _ ∧ _ ∧ (∀ W, Below w.heap.size w W → (loadVar 91 (ad2.add (m * 2))).run Tryd.prog W = .ok (.agg C2) W) ∧ sumD y.h = s2)
          have hme : meetB (a.getD n zD) (b.getD m zD) = ((decide (s1 = s2) && !decide (x.h = y.h)) || decide (s1 = zS) || decide (s2 = zS)) := by
            rw [show a.getD n zD = x.h from hxh, show b.getD m zD = y.h from hyh, meetB, hs1, hs2]
          obtain ⟨e, he⟩ : ∃ e : Bool, decide (s1 = s2) = e := ⟨_, rfl⟩
          obtain ⟨d, hd⟩ : ∃ e : Bool, decide (x.h = y.h) = e := ⟨_, rfl⟩
          obtain ⟨z1, hz1⟩ : ∃ e : Bool, decide (s1 = zS) = e := ⟨_, rfl⟩
          obtain ⟨z2, hz2⟩ : ∃ e : Bool, decide (s2 = zS) = e := ⟨_, rfl⟩
          rw [he, hd, hz1, hz2] at hme
          have HE := Aside0.mk (⟨fun w => by rw [eqS, he], fun w => by rw [eqS, hz1], fun w => by rw [eqS, hz2], hd, hme⟩ : (∀ w, (Op.equal 27 (.agg (cS s1)) (.agg (cS s2))).run Tryd.prog w = .ok e w) ∧ (∀ w, (Op.equal 27 (.agg (cS s1)) (.agg (cS zS))).run Tryd.prog w = .ok z1 w) ∧ (∀ w, (Op.equal 27 (.agg (cS s2)) (.agg (cS zS))).run Tryd.prog w = .ok z2 w) ∧ decide (x.h = y.h) = d ∧ meetB (a.getD n zD) (b.getD m zD) = ((e && !d) || z1 || z2))
          clear hxh hat1 hxt hxf hxr hyh hat2 hyt hyf hyr hC1 hC2 hl1 hl2 hs1 hs2 he hd hz1 hz2 hme
          go_wp2
          refine start_ (n := 14) (S := fun w' => Below wr.heap.size wr w') (ds := []) #[false, false, false, false, false, false, false, false, false, false, false, false, false, false] (by kernel_rfl) rfl rfl (Below.refl _ _).drew (fun hHeld => ?_)
          refine pure_ (i := 0) (N := some 21) (v := ?_) (a' := ?_) #[true, false, false, false, false, false, false, false, false, false, false, false, false, false] rfl rfl (by kernel_rfl) (fun _ _ _ h => h) (Or.inl ⟨by rfl, ?_⟩) ?_ ?_
          rotate_left
          · intro w'
            go_simp
            with_reducible rfl
          rotate_left
          · simp only [Act.put, List.setIfInBounds_toArray, List.set_cons_zero, List.set_cons_succ, i64_w, i32_w]
            rfl
          refine pure_ (i := 1) (N := some 22) (v := ?_) (a' := ?_) #[true, true, false, false, false, false, false, false, false, false, false, false, false, false] rfl rfl (by kernel_rfl) (fun _ _ _ h => h) (Or.inl ⟨by rfl, ?_⟩) ?_ ?_
          rotate_left
          · intro w'
            go_simp
            with_reducible rfl
          rotate_left
          · simp only [Act.put, List.setIfInBounds_toArray, List.set_cons_zero, List.set_cons_succ, i64_w, i32_w]
            rfl
          refine pure_ (i := 2) (N := some 23) (v := ?_) (a' := ?_) #[true, true, true, false, false, false, false, false, false, false, false, false, false, false] rfl rfl (by kernel_rfl) (fun _ _ _ h => h) (Or.inl ⟨by rfl, ?_⟩) ?_ ?_
          rotate_left
          · intro w'
            go_simp
            with_reducible rfl
          rotate_left
          · simp only [Act.put, List.setIfInBounds_toArray, List.set_cons_zero, List.set_cons_succ, i64_w, i32_w]
            rfl
          refine take_ (i := 3) (N := some 24) (v := .agg C1) (a' := ?_) #[true, true, true, true, false, false, false, false, false, false, false, false, false, false] rfl rfl (by kernel_rfl) (fun _ _ _ h => h) (Or.inl ⟨by rfl, fun w' hS => yield_load _ _ rfl _ rfl (HX.out.2.2.2.2.1 w' (below_tr HR.out hS HR.out.size))⟩) hHeld ?_ ?_
          rotate_left
          · simp only [Act.put, List.setIfInBounds_toArray, List.set_cons_zero, List.set_cons_succ, i64_w, i32_w]
            rfl
          refine pure_ (i := 5) (N := some 26) (v := ?_) (a' := ?_) #[true, true, true, true, false, true, false, false, false, false, false, false, false, false] rfl rfl (by kernel_rfl) (fun _ _ _ h => h) (Or.inl ⟨by rfl, ?_⟩) ?_ ?_
          rotate_left
          · intro w'
            go_simp
            with_reducible rfl
          rotate_left
          · simp only [Act.put, List.setIfInBounds_toArray, List.set_cons_zero, List.set_cons_succ, i64_w, i32_w]
            rfl
          refine pure_ (i := 6) (N := some 27) (v := ?_) (a' := ?_) #[true, true, true, true, false, true, true, false, false, false, false, false, false, false] rfl rfl (by kernel_rfl) (fun _ _ _ h => h) (Or.inl ⟨by rfl, ?_⟩) ?_ ?_
          rotate_left
          · intro w'
            go_simp
            with_reducible rfl
          rotate_left
          · simp only [Act.put, List.setIfInBounds_toArray, List.set_cons_zero, List.set_cons_succ, i64_w, i32_w]
            rfl
          refine pure_ (i := 7) (N := some 28) (v := ?_) (a' := ?_) #[true, true, true, true, false, true, true, true, false, false, false, false, false, false] rfl rfl (by kernel_rfl) (fun _ _ _ h => h) (Or.inl ⟨by rfl, ?_⟩) ?_ ?_
          rotate_left
          · intro w'
            go_simp
            with_reducible rfl
          rotate_left
          · simp only [Act.put, List.setIfInBounds_toArray, List.set_cons_zero, List.set_cons_succ, i64_w, i32_w]
            rfl
          refine take_ (i := 8) (N := some 29) (v := .agg C2) (a' := ?_) #[true, true, true, true, false, true, true, true, true, false, false, false, false, false] rfl rfl (by kernel_rfl) (fun _ _ _ h => h) (Or.inl ⟨by rfl, fun w' hS => yield_load _ _ rfl _ rfl (HY.out.2.2.2.2.1 w' (below_tr HR.out hS HR.out.size))⟩) hHeld ?_ ?_
          rotate_left
          · simp only [Act.put, List.setIfInBounds_toArray, List.set_cons_zero, List.set_cons_succ, i64_w, i32_w]
            rfl
          refine makers3_ (n := 12) (f := 4) (fe := 2) #[true, true, true, true, false, true, true, true, true, false, false, false, false, false] #[true, true, true, true, true, true, true, true, true, true, true, true, false, false] (by kernel_rfl) [21, 22, 23, 24, 25, 26, 27, 28, 29, 30, 7, 8] (by kernel_rfl) (by kernel_rfl) rfl (metF s1 s2 wr.drew.heap.size) (fun i => i == 10 || i == 11) (fun _ h => below_tr hHeld h hHeld.size) (metF_mono _ _ _) ?hstep ?hend
          case hstep =>
            intro i o hi hu ho vs w2 hv hb2 hd K hK
            have h3 : vs 3 = .agg C1 := hv 3 (by decide) (by decide)
            have h8 : vs 8 = .agg C2 := hv 8 (by decide) (by decide)
            have hb3 : Below w.heap.size w w2 := below_tr HR.out (below_tr hHeld hb2 hHeld.size) HR.out.size
            simp only [fil2, List.zipIdx_cons, List.zipIdx_nil, List.foldl_cons, List.foldl_nil, List.setIfInBounds_toArray, List.set_cons_zero, List.set_cons_succ, Nat.zero_add, Nat.reduceAdd] at hK ⊢
            match i, hi, hu, ho, hK, hd with
            | 4, _, _, ho, hK, hd =>
              obtain rfl : _ = o := Option.some.inj ho
              refine gr_go Tryd.func48 (by kernel_rfl) rfl #[.agg C1] rfl (by simp only [List.map_toArray, List.map_cons, List.map_nil]; rw [← h3]; rfl) ?_
              refine (sumX_calls HX.out.1 HX.out.2.1 HX.out.2.2.1 w2 (HX.out.2.2.2.1.below hb3) s1 HX.out.2.2.2.2.2).mono ?_
              rintro e w3 ⟨rfl, hb3⟩
              exact ⟨_, rfl, hK _ _ rfl hb3 (fun h => by cases h)⟩
            | 9, _, _, ho, hK, hd =>
              obtain rfl : _ = o := Option.some.inj ho
              refine gr_go Tryd.func48 (by kernel_rfl) rfl #[.agg C2] rfl (by simp only [List.map_toArray, List.map_cons, List.map_nil]; rw [← h8]; rfl) ?_
              refine (sumX_calls HY.out.1 HY.out.2.1 HY.out.2.2.1 w2 (HY.out.2.2.2.1.below hb3) s2 HY.out.2.2.2.2.2).mono ?_
              rintro e w3 ⟨rfl, hb3⟩
              exact ⟨_, rfl, hK _ _ rfl hb3 (fun h => by cases h)⟩
            | 10, _, _, ho, hK, hd =>
              obtain rfl : _ = o := Option.some.inj ho
              exact gr_alloc 27 (.agg (cS zS)) rfl zero27 (hK _ _ ⟨_, rfl, hb2.size, h_new rfl⟩ (below_alloc (Below.refl _ _) _) (fun _ b hb => by obtain rfl := Option.some.inj hb; exact ⟨Nat.le_refl _, by rw [size_alloc]; exact Nat.lt_succ_self _⟩))
            | 11, _, _, ho, hK, hd =>
              obtain rfl : _ = o := Option.some.inj ho
              exact gr_alloc 27 (.agg (cS zS)) rfl zero27 (hK _ _ ⟨_, rfl, hb2.size, h_new rfl⟩ (below_alloc (Below.refl _ _) _) (fun _ b hb => by obtain rfl := Option.some.inj hb; exact ⟨Nat.le_refl _, by rw [size_alloc]; exact Nat.lt_succ_self _⟩))
            | 0, _, hu, _, _, _ => exact absurd hu (by decide)
            | 1, _, hu, _, _, _ => exact absurd hu (by decide)
            | 2, _, hu, _, _, _ => exact absurd hu (by decide)
            | 3, _, hu, _, _, _ => exact absurd hu (by decide)
            | 5, _, hu, _, _, _ => exact absurd hu (by decide)
            | 6, _, hu, _, _, _ => exact absurd hu (by decide)
            | 7, _, hu, _, _, _ => exact absurd hu (by decide)
            | 8, _, hu, _, _, _ => exact absurd hu (by decide)
            | _ + 12, hi, _, _, _, _ => exact absurd hi (by omega)
          case hend =>
            intro vs w6 hv hb6 hF hD
            simp only [fil2, List.zipIdx_cons, List.zipIdx_nil, List.foldl_cons, List.foldl_nil, List.setIfInBounds_toArray, List.set_cons_zero, List.set_cons_succ, Nat.zero_add, Nat.reduceAdd]
            have f4 : vs 4 = .agg (cS s1) := hF 4 (by decide) rfl
            have f9 : vs 9 = .agg (cS s2) := hF 9 (by decide) rfl
            obtain ⟨b7, f10, B7, h7⟩ : ∃ b, vs 10 = .pointer (some ⟨b, 0, none⟩) ∧ wr.drew.heap.size ≤ b ∧ w6.heap[b]? = some (.cells (cS zS) 27 (0, 0)) := hF 10 (by decide) rfl
            obtain ⟨b8, f11, B8, h8⟩ : ∃ b, vs 11 = .pointer (some ⟨b, 0, none⟩) ∧ wr.drew.heap.size ≤ b ∧ w6.heap[b]? = some (.cells (cS zS) 27 (0, 0)) := hF 11 (by decide) rfl
            have hne : b8 ≠ b7 := fun e => hD 10 11 (by decide) rfl (by decide) rfl (by decide) rfl rfl b7 (by rw [f10]; rfl) (by rw [f11, e]; rfl)
            rw [f4, f9, f10, f11]
            have hHeld := below_tr hHeld hb6 hHeld.size
            have B7 : wr.heap.size ≤ b7 := B7
            have B8 : wr.heap.size ≤ b8 := B8
            clear f4 f9 f10 f11 hF hD hv hb6
            generalize vs 0 = v0
            generalize vs 1 = v1
            generalize vs 2 = v2
            generalize vs 3 = v3
            generalize vs 5 = v5
            generalize vs 6 = v6
            generalize vs 7 = v7
            generalize vs 8 = v8
            refine one_ (i := 12) (N := none) #[true, true, true, true, true, true, true, true, true, true, true, true, true, false] rfl rfl (by kernel_rfl) (by decide) (fun K hK => ?_)
            refine st_row (by rfl) rfl 27 (.tmp 7) (.tmp 25) rfl b7 (cS s1) rfl rfl 27 (cS zS) h7 (by rw [cS_size]; kernel_rfl) (by rw [cS_size, cS_size]) (encI_one _) ?_
            refine hK.out _ _ (below_setRow hHeld B7) (fun hHeld => ?_)
            clear hK K
            refine one_ (i := 13) (N := none) #[true, true, true, true, true, true, true, true, true, true, true, true, true, true] rfl rfl (by kernel_rfl) (by decide) (fun K hK => ?_)
            refine st_row (by rfl) rfl 27 (.tmp 8) (.tmp 30) rfl b8 (cS s2) rfl rfl 27 (cS zS) ((setRow_other _ _ _ _ hne).trans h8) (by rw [cS_size]; kernel_rfl) (by rw [cS_size, cS_size]) (encI_one _) ?_
            refine hK.out _ _ (below_setRow (below_setRow (below_tr (Below.refl _ _) (by assumption) (Nat.le_refl _)) B7) B8) (fun hHeld => ?_)
            clear hK K
            refine done_ (by kernel_rfl) ?_
            obtain ⟨wz, hwz⟩ : ∃ W, (w6.setRow b7 (cS s1)).setRow b8 (cS s2) = W := ⟨_, rfl⟩
            have hz7 : wz.heap[b7]? = some (.cells (cS s1) 27 (0, 0)) := by rw [← hwz, setRow_other _ _ _ _ (Ne.symm hne)]; exact setRow_heap _ _ _ _ _ _ h7
            have hz8 : wz.heap[b8]? = some (.cells (cS s2) 27 (0, 0)) := by rw [← hwz]; exact setRow_heap _ _ _ _ _ _ ((setRow_other _ _ _ _ hne).trans h8)
            rw [hwz] at hHeld ⊢
            have HZ := Aside0.mk (⟨below_tr HR.out hHeld HR.out.size, fun W hb => ld_S (at_next hz7 hb) 0, fun W hb => ld_S (at_next hz8 hb) 0⟩ : Below w.heap.size w wz ∧ (∀ W, Below wz.heap.size wz W → (loadVar 27 ⟨b7, 0, none⟩).run Tryd.prog W = .ok (.agg (cS s1)) W) ∧ (∀ W, Below wz.heap.size wz W → (loadVar 27 ⟨b8, 0, none⟩).run Tryd.prog W = .ok (.agg (cS s2)) W))
            clear hwz hz7 hz8 h7 h8 B7 B8 hne hHeld
            go_wp2
            refine start_ (n := 25) (S := fun w' => Below wz.heap.size wz w') (ds := []) #[false, false, false, false, false, false, false, false, false, false, false, false, false, false, false, false, false, false, false, false, false, false, false, false, false] (by kernel_rfl) rfl rfl (Below.refl _ _).drew (fun hHeld => ?_)
            refine take_ (i := 0) (N := some 31) (v := .agg (cS s1)) (a' := ?_) #[true, false, false, false, false, false, false, false, false, false, false, false, false, false, false, false, false, false, false, false, false, false, false, false, false] rfl rfl (by kernel_rfl) (fun _ _ _ h => h) (Or.inl ⟨by rfl, fun w' hS => yield_load _ _ rfl _ rfl (HZ.out.2.1 w' hS)⟩) hHeld ?_ ?_
            rotate_left
            · simp only [Act.put, List.setIfInBounds_toArray, List.set_cons_zero, List.set_cons_succ, i64_w, i32_w]
              rfl
            refine take_ (i := 1) (N := some 32) (v := .agg (cS s2)) (a' := ?_) #[true, true, false, false, false, false, false, false, false, false, false, false, false, false, false, false, false, false, false, false, false, false, false, false, false] rfl rfl (by kernel_rfl) (fun _ _ _ h => h) (Or.inl ⟨by rfl, fun w' hS => yield_load _ _ rfl _ rfl (HZ.out.2.2 w' hS)⟩) hHeld ?_ ?_
            rotate_left
            · simp only [Act.put, List.setIfInBounds_toArray, List.set_cons_zero, List.set_cons_succ, i64_w, i32_w]
              rfl
            refine pure_ (i := 2) (N := some 33) (v := .bool e) (a' := ?_) #[true, true, true, false, false, false, false, false, false, false, false, false, false, false, false, false, false, false, false, false, false, false, false, false, false] rfl rfl (by kernel_rfl) (fun _ _ _ h => h) (Or.inl ⟨by rfl, fun w' => yield_eql _ _ _ _ rfl _ _ rfl rfl gt_S (HE.out.1 w')⟩) ?_ ?_
            rotate_left
            · simp only [Act.put, List.setIfInBounds_toArray, List.set_cons_zero, List.set_cons_succ, i64_w, i32_w]
              rfl
            refine pure_ (i := 3) (N := some 34) (v := ?_) (a' := ?_) #[true, true, true, true, false, false, false, false, false, false, false, false, false, false, false, false, false, false, false, false, false, false, false, false, false] rfl rfl (by kernel_rfl) (fun _ _ _ h => h) (Or.inl ⟨by rfl, ?_⟩) ?_ ?_
            rotate_left
            · intro w'
              go_simp
              with_reducible rfl
            rotate_left
            · simp only [Act.put, List.setIfInBounds_toArray, List.set_cons_zero, List.set_cons_succ, i64_w, i32_w]
              rfl
            cases e with
            | true =>
              refine pure_ (i := 4) (N := some 35) (v := ?_) (a' := ?_) #[true, true, true, true, true, false, false, false, false, false, false, false, false, false, false, false, false, false, false, false, false, false, false, false, false] rfl rfl (by kernel_rfl) (fun _ _ _ h => h) (Or.inl ⟨by rfl, ?_⟩) ?_ ?_
              rotate_left
              · intro w'
                go_simp
                with_reducible rfl
              rotate_left
              · simp only [Act.put, List.setIfInBounds_toArray, List.set_cons_zero, List.set_cons_succ, i64_w, i32_w]
                rfl
              refine pure_ (i := 5) (N := some 36) (v := ?_) (a' := ?_) #[true, true, true, true, true, true, false, false, false, false, false, false, false, false, false, false, false, false, false, false, false, false, false, false, false] rfl rfl (by kernel_rfl) (fun _ _ _ h => h) (Or.inl ⟨by rfl, ?_⟩) ?_ ?_
              rotate_left
              · intro w'
                go_simp
                with_reducible rfl
              rotate_left
              · simp only [Act.put, List.setIfInBounds_toArray, List.set_cons_zero, List.set_cons_succ, i64_w, i32_w]
                rfl
              refine pure_ (i := 6) (N := some 37) (v := ?_) (a' := ?_) #[true, true, true, true, true, true, true, false, false, false, false, false, false, false, false, false, false, false, false, false, false, false, false, false, false] rfl rfl (by kernel_rfl) (fun _ _ _ h => h) (Or.inl ⟨by rfl, ?_⟩) ?_ ?_
              rotate_left
              · intro w'
                go_simp
                with_reducible rfl
              rotate_left
              · simp only [Act.put, List.setIfInBounds_toArray, List.set_cons_zero, List.set_cons_succ, i64_w, i32_w]
                rfl
              refine take_ (i := 7) (N := some 38) (v := .agg C1) (a' := ?_) #[true, true, true, true, true, true, true, true, false, false, false, false, false, false, false, false, false, false, false, false, false, false, false, false, false] rfl rfl (by kernel_rfl) (fun _ _ _ h => h) (Or.inl ⟨by rfl, fun w' hS => yield_load _ _ rfl _ rfl (HX.out.2.2.2.2.1 w' (below_tr HZ.out.1 hS HZ.out.1.size))⟩) hHeld ?_ ?_
              rotate_left
              · simp only [Act.put, List.setIfInBounds_toArray, List.set_cons_zero, List.set_cons_succ, i64_w, i32_w]
                rfl
              refine pure_ (i := 8) (N := some 39) (v := ?_) (a' := ?_) #[true, true, true, true, true, true, true, true, true, false, false, false, false, false, false, false, false, false, false, false, false, false, false, false, false] rfl rfl (by kernel_rfl) (fun _ _ _ h => h) (Or.inl ⟨by rfl, ?_⟩) ?_ ?_
              rotate_left
              · intro w'
                go_simp
                with_reducible rfl
              rotate_left
              · simp only [Act.put, List.setIfInBounds_toArray, List.set_cons_zero, List.set_cons_succ, i64_w, i32_w]
                rfl
              refine pure_ (i := 9) (N := some 40) (v := ?_) (a' := ?_) #[true, true, true, true, true, true, true, true, true, true, false, false, false, false, false, false, false, false, false, false, false, false, false, false, false] rfl rfl (by kernel_rfl) (fun _ _ _ h => h) (Or.inl ⟨by rfl, ?_⟩) ?_ ?_
              rotate_left
              · intro w'
                go_simp
                with_reducible rfl
              rotate_left
              · simp only [Act.put, List.setIfInBounds_toArray, List.set_cons_zero, List.set_cons_succ, i64_w, i32_w]
                rfl
              refine pure_ (i := 10) (N := some 41) (v := ?_) (a' := ?_) #[true, true, true, true, true, true, true, true, true, true, true, false, false, false, false, false, false, false, false, false, false, false, false, false, false] rfl rfl (by kernel_rfl) (fun _ _ _ h => h) (Or.inl ⟨by rfl, ?_⟩) ?_ ?_
              rotate_left
              · intro w'
                go_simp
                with_reducible rfl
              rotate_left
              · simp only [Act.put, List.setIfInBounds_toArray, List.set_cons_zero, List.set_cons_succ, i64_w, i32_w]
                rfl
              refine take_ (i := 11) (N := some 42) (v := .agg C2) (a' := ?_) #[true, true, true, true, true, true, true, true, true, true, true, true, false, false, false, false, false, false, false, false, false, false, false, false, false] rfl rfl (by kernel_rfl) (fun _ _ _ h => h) (Or.inl ⟨by rfl, fun w' hS => yield_load _ _ rfl _ rfl (HY.out.2.2.2.2.1 w' (below_tr HZ.out.1 hS HZ.out.1.size))⟩) hHeld ?_ ?_
              rotate_left
              · simp only [Act.put, List.setIfInBounds_toArray, List.set_cons_zero, List.set_cons_succ, i64_w, i32_w]
                rfl
              refine one_ (i := 12) (N := some 43) #[true, true, true, true, true, true, true, true, true, true, true, true, true, false, false, false, false, false, false, false, false, false, false, false, false] rfl rfl (by kernel_rfl) (by decide) (fun K hK => ?_)
              refine goes_ Tryd.func49 (by kernel_rfl) rfl #[.agg C1, .agg C2] (by rfl) rfl rfl (by simp only [List.map_toArray, List.map_cons, List.map_nil]; rfl) ?_
              refine (alikeX_calls HX.out.1 HY.out.1 _ (HX.out.2.2.2.1.below (below_tr HZ.out.1 hHeld HZ.out.1.size)) (HY.out.2.2.2.1.below (below_tr HZ.out.1 hHeld HZ.out.1.size)) HX.out.2.2.1 HY.out.2.2.1 d HE.out.2.2.2.1).mono ?_
              rintro e w9 ⟨rfl, hb9⟩
              refine ⟨_, rfl, ?_⟩
              refine hK.out _ _ (below_tr hHeld hb9 hHeld.size) (fun hHeld => ?_)
              clear hK K
              refine norm_ (a' := ?_) ?_ ?_
              rotate_left
              · show Act.put _ (some 43) _ = _
                simp only [Act.put, List.setIfInBounds_toArray, List.set_cons_zero, List.set_cons_succ, i64_w, i32_w]
                rfl
              refine pure_ (i := 13) (N := some 44) (v := ?_) (a' := ?_) #[true, true, true, true, true, true, true, true, true, true, true, true, true, true, false, false, false, false, false, false, false, false, false, false, false] rfl rfl (by kernel_rfl) (fun _ _ _ h => h) (Or.inl ⟨by rfl, ?_⟩) ?_ ?_
              rotate_left
              · intro w'
                go_simp
                with_reducible rfl
              rotate_left
              · simp only [Act.put, List.setIfInBounds_toArray, List.set_cons_zero, List.set_cons_succ, i64_w, i32_w]
                rfl
              cases d with
              | false =>
                refine pure_ (i := 14) (N := some 45) (v := ?_) (a' := ?_) #[true, true, true, true, true, true, true, true, true, true, true, true, true, true, true, false, false, false, false, false, false, false, false, false, false] rfl rfl (by kernel_rfl) (fun _ _ _ h => h) (Or.inl ⟨by rfl, ?_⟩) ?_ ?_
                rotate_left
                · intro w'
                  go_simp
                  with_reducible rfl
                rotate_left
                · simp only [Act.put, List.setIfInBounds_toArray, List.set_cons_zero, List.set_cons_succ, i64_w, i32_w]
                  rfl
                refine pure_ (i := 15) (N := some 46) (v := ?_) (a' := ?_) #[true, true, true, true, true, true, true, true, true, true, true, true, true, true, true, true, false, false, false, false, false, false, false, false, false] rfl rfl (by kernel_rfl) (fun _ _ _ h => h) (Or.inl ⟨by rfl, ?_⟩) ?_ ?_
                rotate_left
                · intro w'
                  go_simp
                  with_reducible rfl
                rotate_left
                · simp only [Act.put, List.setIfInBounds_toArray, List.set_cons_zero, List.set_cons_succ, i64_w, i32_w]
                  rfl
                refine pure_ (i := 16) (N := some 47) (v := undef) (a' := ?_) #[true, true, true, true, true, true, true, true, true, true, true, true, true, true, true, true, true, false, false, false, false, false, false, false, false] rfl rfl (by kernel_rfl) (fun _ _ _ h => h) (Or.inr ⟨by rfl, rfl⟩) ?_ ?_
                rotate_left
                · simp only [Act.put, List.setIfInBounds_toArray, List.set_cons_zero, List.set_cons_succ, i64_w, i32_w]
                  rfl
                refine pure_ (i := 17) (N := some 48) (v := undef) (a' := ?_) #[true, true, true, true, true, true, true, true, true, true, true, true, true, true, true, true, true, true, false, false, false, false, false, false, false] rfl rfl (by kernel_rfl) (fun _ _ _ h => h) (Or.inr ⟨by rfl, rfl⟩) ?_ ?_
                rotate_left
                · simp only [Act.put, List.setIfInBounds_toArray, List.set_cons_zero, List.set_cons_succ, i64_w, i32_w]
                  rfl
                refine pure_ (i := 18) (N := some 49) (v := undef) (a' := ?_) #[true, true, true, true, true, true, true, true, true, true, true, true, true, true, true, true, true, true, true, false, false, false, false, false, false] rfl rfl (by kernel_rfl) (fun _ _ _ h => h) (Or.inr ⟨by rfl, rfl⟩) ?_ ?_
                rotate_left
                · simp only [Act.put, List.setIfInBounds_toArray, List.set_cons_zero, List.set_cons_succ, i64_w, i32_w]
                  rfl
                refine pure_ (i := 19) (N := some 50) (v := ?_) (a' := ?_) #[true, true, true, true, true, true, true, true, true, true, true, true, true, true, true, true, true, true, true, true, false, false, false, false, false] rfl rfl (by kernel_rfl) (fun _ _ _ h => h) (Or.inl ⟨by rfl, ?_⟩) ?_ ?_
                rotate_left
                · intro w'
                  go_simp
                  with_reducible rfl
                rotate_left
                · simp only [Act.put, List.setIfInBounds_toArray, List.set_cons_zero, List.set_cons_succ, i64_w, i32_w]
                  rfl
                refine pure_ (i := 20) (N := some 51) (v := ?_) (a' := ?_) #[true, true, true, true, true, true, true, true, true, true, true, true, true, true, true, true, true, true, true, true, true, false, false, false, false] rfl rfl (by kernel_rfl) (fun _ _ _ h => h) (Or.inl ⟨by rfl, ?_⟩) ?_ ?_
                rotate_left
                · intro w'
                  go_simp
                  with_reducible rfl
                rotate_left
                · simp only [Act.put, List.setIfInBounds_toArray, List.set_cons_zero, List.set_cons_succ, i64_w, i32_w]
                  rfl
                refine pure_ (i := 21) (N := some 52) (v := undef) (a' := ?_) #[true, true, true, true, true, true, true, true, true, true, true, true, true, true, true, true, true, true, true, true, true, true, false, false, false] rfl rfl (by kernel_rfl) (fun _ _ _ h => h) (Or.inr ⟨by rfl, rfl⟩) ?_ ?_
                rotate_left
                · simp only [Act.put, List.setIfInBounds_toArray, List.set_cons_zero, List.set_cons_succ, i64_w, i32_w]
                  rfl
                refine pure_ (i := 22) (N := some 53) (v := undef) (a' := ?_) #[true, true, true, true, true, true, true, true, true, true, true, true, true, true, true, true, true, true, true, true, true, true, true, false, false] rfl rfl (by kernel_rfl) (fun _ _ _ h => h) (Or.inr ⟨by rfl, rfl⟩) ?_ ?_
                rotate_left
                · simp only [Act.put, List.setIfInBounds_toArray, List.set_cons_zero, List.set_cons_succ, i64_w, i32_w]
                  rfl
                refine pure_ (i := 23) (N := some 54) (v := undef) (a' := ?_) #[true, true, true, true, true, true, true, true, true, true, true, true, true, true, true, true, true, true, true, true, true, true, true, true, false] rfl rfl (by kernel_rfl) (fun _ _ _ h => h) (Or.inr ⟨by rfl, rfl⟩) ?_ ?_
                rotate_left
                · simp only [Act.put, List.setIfInBounds_toArray, List.set_cons_zero, List.set_cons_succ, i64_w, i32_w]
                  rfl
                refine pure_ (i := 24) (N := some 55) (v := ?_) (a' := ?_) #[true, true, true, true, true, true, true, true, true, true, true, true, true, true, true, true, true, true, true, true, true, true, true, true, true] rfl rfl (by kernel_rfl) (fun _ _ _ h => h) (Or.inl ⟨by rfl, ?_⟩) ?_ ?_
                rotate_left
                · intro w'
                  go_simp
                  with_reducible rfl
                rotate_left
                · simp only [Act.put, List.setIfInBounds_toArray, List.set_cons_zero, List.set_cons_succ, i64_w, i32_w]
                  rfl
                refine done_ (by kernel_rfl) ?_
                have HQ := Aside0.mk (below_tr HZ.out.1 hHeld HZ.out.1.size)
                have HM := Aside0.mk (met_hit c5 c6 (HE.out.2.2.2.2.trans (by rfl)))
                clear hHeld
                as_aux_lemma =>
                  go_wp2
                  go_ret
                  refine ⟨?_, HQ.out⟩
                  rw [HM.out]
                  rfl
              | true =>
                refine pure_ (i := 14) (N := some 45) (v := ?_) (a' := ?_) #[true, true, true, true, true, true, true, true, true, true, true, true, true, true, true, false, false, false, false, false, false, false, false, false, false] rfl rfl (by kernel_rfl) (fun _ _ _ h => h) (Or.inl ⟨by rfl, ?_⟩) ?_ ?_
                rotate_left
                · intro w'
                  go_simp
                  with_reducible rfl
                rotate_left
                · simp only [Act.put, List.setIfInBounds_toArray, List.set_cons_zero, List.set_cons_succ, i64_w, i32_w]
                  rfl
                refine pure_ (i := 15) (N := some 46) (v := ?_) (a' := ?_) #[true, true, true, true, true, true, true, true, true, true, true, true, true, true, true, true, false, false, false, false, false, false, false, false, false] rfl rfl (by kernel_rfl) (fun _ _ _ h => h) (Or.inl ⟨by rfl, ?_⟩) ?_ ?_
                rotate_left
                · intro w'
                  go_simp
                  with_reducible rfl
                rotate_left
                · simp only [Act.put, List.setIfInBounds_toArray, List.set_cons_zero, List.set_cons_succ, i64_w, i32_w]
                  rfl
                refine take_ (i := 16) (N := some 47) (v := .agg (cS s1)) (a' := ?_) #[true, true, true, true, true, true, true, true, true, true, true, true, true, true, true, true, true, false, false, false, false, false, false, false, false] rfl rfl (by kernel_rfl) (fun _ _ _ h => h) (Or.inl ⟨by rfl, fun w' hS => yield_load _ _ rfl _ rfl (HZ.out.2.1 w' hS)⟩) hHeld ?_ ?_
                rotate_left
                · simp only [Act.put, List.setIfInBounds_toArray, List.set_cons_zero, List.set_cons_succ, i64_w, i32_w]
                  rfl
                refine pure_ (i := 17) (N := some 48) (v := .agg (cS zS)) (a' := ?_) #[true, true, true, true, true, true, true, true, true, true, true, true, true, true, true, true, true, true, false, false, false, false, false, false, false] rfl rfl (by kernel_rfl) (fun _ _ _ h => h) (Or.inl ⟨by rfl, fun w' => yield_built 27 _ rfl (cS zS) [] (by simp only [List.map_toArray, List.map_nil]) (by kernel_rfl)⟩) ?_ ?_
                rotate_left
                · simp only [Act.put, List.setIfInBounds_toArray, List.set_cons_zero, List.set_cons_succ, i64_w, i32_w]
                  rfl
                refine pure_ (i := 18) (N := some 49) (v := .bool z1) (a' := ?_) #[true, true, true, true, true, true, true, true, true, true, true, true, true, true, true, true, true, true, true, false, false, false, false, false, false] rfl rfl (by kernel_rfl) (fun _ _ _ h => h) (Or.inl ⟨by rfl, fun w' => yield_eql _ _ _ _ rfl _ _ rfl rfl gt_S (HE.out.2.1 w')⟩) ?_ ?_
                rotate_left
                · simp only [Act.put, List.setIfInBounds_toArray, List.set_cons_zero, List.set_cons_succ, i64_w, i32_w]
                  rfl
                cases z1 with
                | true =>
                  refine pure_ (i := 19) (N := some 50) (v := ?_) (a' := ?_) #[true, true, true, true, true, true, true, true, true, true, true, true, true, true, true, true, true, true, true, true, false, false, false, false, false] rfl rfl (by kernel_rfl) (fun _ _ _ h => h) (Or.inl ⟨by rfl, ?_⟩) ?_ ?_
                  rotate_left
                  · intro w'
                    go_simp
                    with_reducible rfl
                  rotate_left
                  · simp only [Act.put, List.setIfInBounds_toArray, List.set_cons_zero, List.set_cons_succ, i64_w, i32_w]
                    rfl
                  refine pure_ (i := 20) (N := some 51) (v := ?_) (a' := ?_) #[true, true, true, true, true, true, true, true, true, true, true, true, true, true, true, true, true, true, true, true, true, false, false, false, false] rfl rfl (by kernel_rfl) (fun _ _ _ h => h) (Or.inl ⟨by rfl, ?_⟩) ?_ ?_
                  rotate_left
                  · intro w'
                    go_simp
                    with_reducible rfl
                  rotate_left
                  · simp only [Act.put, List.setIfInBounds_toArray, List.set_cons_zero, List.set_cons_succ, i64_w, i32_w]
                    rfl
                  refine pure_ (i := 21) (N := some 52) (v := undef) (a' := ?_) #[true, true, true, true, true, true, true, true, true, true, true, true, true, true, true, true, true, true, true, true, true, true, false, false, false] rfl rfl (by kernel_rfl) (fun _ _ _ h => h) (Or.inr ⟨by rfl, rfl⟩) ?_ ?_
                  rotate_left
                  · simp only [Act.put, List.setIfInBounds_toArray, List.set_cons_zero, List.set_cons_succ, i64_w, i32_w]
                    rfl
                  refine pure_ (i := 22) (N := some 53) (v := undef) (a' := ?_) #[true, true, true, true, true, true, true, true, true, true, true, true, true, true, true, true, true, true, true, true, true, true, true, false, false] rfl rfl (by kernel_rfl) (fun _ _ _ h => h) (Or.inr ⟨by rfl, rfl⟩) ?_ ?_
                  rotate_left
                  · simp only [Act.put, List.setIfInBounds_toArray, List.set_cons_zero, List.set_cons_succ, i64_w, i32_w]
                    rfl
                  refine pure_ (i := 23) (N := some 54) (v := undef) (a' := ?_) #[true, true, true, true, true, true, true, true, true, true, true, true, true, true, true, true, true, true, true, true, true, true, true, true, false] rfl rfl (by kernel_rfl) (fun _ _ _ h => h) (Or.inr ⟨by rfl, rfl⟩) ?_ ?_
                  rotate_left
                  · simp only [Act.put, List.setIfInBounds_toArray, List.set_cons_zero, List.set_cons_succ, i64_w, i32_w]
                    rfl
                  refine pure_ (i := 24) (N := some 55) (v := ?_) (a' := ?_) #[true, true, true, true, true, true, true, true, true, true, true, true, true, true, true, true, true, true, true, true, true, true, true, true, true] rfl rfl (by kernel_rfl) (fun _ _ _ h => h) (Or.inl ⟨by rfl, ?_⟩) ?_ ?_
                  rotate_left
                  · intro w'
                    go_simp
                    with_reducible rfl
                  rotate_left
                  · simp only [Act.put, List.setIfInBounds_toArray, List.set_cons_zero, List.set_cons_succ, i64_w, i32_w]
                    rfl
                  refine done_ (by kernel_rfl) ?_
                  have HQ := Aside0.mk (below_tr HZ.out.1 hHeld HZ.out.1.size)
                  have HM := Aside0.mk (met_hit c5 c6 (HE.out.2.2.2.2.trans (by rfl)))
                  clear hHeld
                  as_aux_lemma =>
                    go_wp2
                    go_ret
                    refine ⟨?_, HQ.out⟩
                    rw [HM.out]
                    rfl
                | false =>
                  refine pure_ (i := 19) (N := some 50) (v := ?_) (a' := ?_) #[true, true, true, true, true, true, true, true, true, true, true, true, true, true, true, true, true, true, true, true, false, false, false, false, false] rfl rfl (by kernel_rfl) (fun _ _ _ h => h) (Or.inl ⟨by rfl, ?_⟩) ?_ ?_
                  rotate_left
                  · intro w'
                    go_simp
                    with_reducible rfl
                  rotate_left
                  · simp only [Act.put, List.setIfInBounds_toArray, List.set_cons_zero, List.set_cons_succ, i64_w, i32_w]
                    rfl
                  refine pure_ (i := 20) (N := some 51) (v := ?_) (a' := ?_) #[true, true, true, true, true, true, true, true, true, true, true, true, true, true, true, true, true, true, true, true, true, false, false, false, false] rfl rfl (by kernel_rfl) (fun _ _ _ h => h) (Or.inl ⟨by rfl, ?_⟩) ?_ ?_
                  rotate_left
                  · intro w'
                    go_simp
                    with_reducible rfl
                  rotate_left
                  · simp only [Act.put, List.setIfInBounds_toArray, List.set_cons_zero, List.set_cons_succ, i64_w, i32_w]
                    rfl
                  refine take_ (i := 21) (N := some 52) (v := .agg (cS s2)) (a' := ?_) #[true, true, true, true, true, true, true, true, true, true, true, true, true, true, true, true, true, true, true, true, true, true, false, false, false] rfl rfl (by kernel_rfl) (fun _ _ _ h => h) (Or.inl ⟨by rfl, fun w' hS => yield_load _ _ rfl _ rfl (HZ.out.2.2 w' hS)⟩) hHeld ?_ ?_
                  rotate_left
                  · simp only [Act.put, List.setIfInBounds_toArray, List.set_cons_zero, List.set_cons_succ, i64_w, i32_w]
                    rfl
                  refine pure_ (i := 22) (N := some 53) (v := .agg (cS zS)) (a' := ?_) #[true, true, true, true, true, true, true, true, true, true, true, true, true, true, true, true, true, true, true, true, true, true, true, false, false] rfl rfl (by kernel_rfl) (fun _ _ _ h => h) (Or.inl ⟨by rfl, fun w' => yield_built 27 _ rfl (cS zS) [] (by simp only [List.map_toArray, List.map_nil]) (by kernel_rfl)⟩) ?_ ?_
                  rotate_left
                  · simp only [Act.put, List.setIfInBounds_toArray, List.set_cons_zero, List.set_cons_succ, i64_w, i32_w]
                    rfl
                  refine pure_ (i := 23) (N := some 54) (v := .bool z2) (a' := ?_) #[true, true, true, true, true, true, true, true, true, true, true, true, true, true, true, true, true, true, true, true, true, true, true, true, false] rfl rfl (by kernel_rfl) (fun _ _ _ h => h) (Or.inl ⟨by rfl, fun w' => yield_eql _ _ _ _ rfl _ _ rfl rfl gt_S (HE.out.2.2.1 w')⟩) ?_ ?_
                  rotate_left
                  · simp only [Act.put, List.setIfInBounds_toArray, List.set_cons_zero, List.set_cons_succ, i64_w, i32_w]
                    rfl
                  refine pure_ (i := 24) (N := some 55) (v := ?_) (a' := ?_) #[true, true, true, true, true, true, true, true, true, true, true, true, true, true, true, true, true, true, true, true, true, true, true, true, true] rfl rfl (by kernel_rfl) (fun _ _ _ h => h) (Or.inl ⟨by rfl, ?_⟩) ?_ ?_
                  rotate_left
                  · intro w'
                    go_simp
                    with_reducible rfl
                  rotate_left
                  · simp only [Act.put, List.setIfInBounds_toArray, List.set_cons_zero, List.set_cons_succ, i64_w, i32_w]
                    rfl
                  cases z2 with
                  | true =>
                    refine done_ (by kernel_rfl) ?_
                    have HQ := Aside0.mk (below_tr HZ.out.1 hHeld HZ.out.1.size)
                    have HM := Aside0.mk (met_hit c5 c6 (HE.out.2.2.2.2.trans (by rfl)))
                    clear hHeld
                    as_aux_lemma =>
                      go_wp2
                      go_ret
                      refine ⟨?_, HQ.out⟩
                      rw [HM.out]
                      rfl
                  | false =>
                    refine done_ (by kernel_rfl) ?_
                    have HQ := Aside0.mk (below_tr HZ.out.1 hHeld HZ.out.1.size)
                    have hm1 : ∀ k, k < m + 1 → meetB (a.getD n zD) (b.getD k zD) = false := fun k hk => by
                      by_cases hkm : k = m
                      · rw [hkm, HE.out.2.2.2.2]; rfl
                      · exact HU.out k (by omega)
                    have HM := Aside0.mk hm1
                    clear hHeld hm1
                    as_aux_lemma =>
                      go_wp2
                      exact ⟨⟨m + 1, by simp, by omega, HM, HQ⟩, by simp [intOf]; omega⟩
            | false =>
              refine pure_ (i := 4) (N := some 35) (v := undef) (a' := ?_) #[true, true, true, true, true, false, false, false, false, false, false, false, false, false, false, false, false, false, false, false, false, false, false, false, false] rfl rfl (by kernel_rfl) (fun _ _ _ h => h) (Or.inr ⟨by rfl, rfl⟩) ?_ ?_
              rotate_left
              · simp only [Act.put, List.setIfInBounds_toArray, List.set_cons_zero, List.set_cons_succ, i64_w, i32_w]
                rfl
              refine pure_ (i := 5) (N := some 36) (v := undef) (a' := ?_) #[true, true, true, true, true, true, false, false, false, false, false, false, false, false, false, false, false, false, false, false, false, false, false, false, false] rfl rfl (by kernel_rfl) (fun _ _ _ h => h) (Or.inr ⟨by rfl, rfl⟩) ?_ ?_
              rotate_left
              · simp only [Act.put, List.setIfInBounds_toArray, List.set_cons_zero, List.set_cons_succ, i64_w, i32_w]
                rfl
              refine pure_ (i := 6) (N := some 37) (v := undef) (a' := ?_) #[true, true, true, true, true, true, true, false, false, false, false, false, false, false, false, false, false, false, false, false, false, false, false, false, false] rfl rfl (by kernel_rfl) (fun _ _ _ h => h) (Or.inr ⟨by rfl, rfl⟩) ?_ ?_
              rotate_left
              · simp only [Act.put, List.setIfInBounds_toArray, List.set_cons_zero, List.set_cons_succ, i64_w, i32_w]
                rfl
              refine pure_ (i := 7) (N := some 38) (v := undef) (a' := ?_) #[true, true, true, true, true, true, true, true, false, false, false, false, false, false, false, false, false, false, false, false, false, false, false, false, false] rfl rfl (by kernel_rfl) (fun _ _ _ h => h) (Or.inr ⟨by rfl, rfl⟩) ?_ ?_
              rotate_left
              · simp only [Act.put, List.setIfInBounds_toArray, List.set_cons_zero, List.set_cons_succ, i64_w, i32_w]
                rfl
              refine pure_ (i := 8) (N := some 39) (v := undef) (a' := ?_) #[true, true, true, true, true, true, true, true, true, false, false, false, false, false, false, false, false, false, false, false, false, false, false, false, false] rfl rfl (by kernel_rfl) (fun _ _ _ h => h) (Or.inr ⟨by rfl, rfl⟩) ?_ ?_
              rotate_left
              · simp only [Act.put, List.setIfInBounds_toArray, List.set_cons_zero, List.set_cons_succ, i64_w, i32_w]
                rfl
              refine pure_ (i := 9) (N := some 40) (v := undef) (a' := ?_) #[true, true, true, true, true, true, true, true, true, true, false, false, false, false, false, false, false, false, false, false, false, false, false, false, false] rfl rfl (by kernel_rfl) (fun _ _ _ h => h) (Or.inr ⟨by rfl, rfl⟩) ?_ ?_
              rotate_left
              · simp only [Act.put, List.setIfInBounds_toArray, List.set_cons_zero, List.set_cons_succ, i64_w, i32_w]
                rfl
              refine pure_ (i := 10) (N := some 41) (v := undef) (a' := ?_) #[true, true, true, true, true, true, true, true, true, true, true, false, false, false, false, false, false, false, false, false, false, false, false, false, false] rfl rfl (by kernel_rfl) (fun _ _ _ h => h) (Or.inr ⟨by rfl, rfl⟩) ?_ ?_
              rotate_left
              · simp only [Act.put, List.setIfInBounds_toArray, List.set_cons_zero, List.set_cons_succ, i64_w, i32_w]
                rfl
              refine pure_ (i := 11) (N := some 42) (v := undef) (a' := ?_) #[true, true, true, true, true, true, true, true, true, true, true, true, false, false, false, false, false, false, false, false, false, false, false, false, false] rfl rfl (by kernel_rfl) (fun _ _ _ h => h) (Or.inr ⟨by rfl, rfl⟩) ?_ ?_
              rotate_left
              · simp only [Act.put, List.setIfInBounds_toArray, List.set_cons_zero, List.set_cons_succ, i64_w, i32_w]
                rfl
              refine one_ (i := 12) (N := some 43) #[true, true, true, true, true, true, true, true, true, true, true, true, true, false, false, false, false, false, false, false, false, false, false, false, false] rfl rfl (by kernel_rfl) (by decide) (fun K hK => ?_)
              refine off_ (by rfl) ?_
              refine hK.out _ _ hHeld (fun hHeld => ?_)
              clear hK K
              refine norm_ (a' := ?_) ?_ ?_
              rotate_left
              · show Act.put _ (some 43) _ = _
                simp only [Act.put, List.setIfInBounds_toArray, List.set_cons_zero, List.set_cons_succ, i64_w, i32_w]
                rfl
              refine pure_ (i := 13) (N := some 44) (v := undef) (a' := ?_) #[true, true, true, true, true, true, true, true, true, true, true, true, true, true, false, false, false, false, false, false, false, false, false, false, false] rfl rfl (by kernel_rfl) (fun _ _ _ h => h) (Or.inr ⟨by rfl, rfl⟩) ?_ ?_
              rotate_left
              · simp only [Act.put, List.setIfInBounds_toArray, List.set_cons_zero, List.set_cons_succ, i64_w, i32_w]
                rfl
              refine pure_ (i := 14) (N := some 45) (v := ?_) (a' := ?_) #[true, true, true, true, true, true, true, true, true, true, true, true, true, true, true, false, false, false, false, false, false, false, false, false, false] rfl rfl (by kernel_rfl) (fun _ _ _ h => h) (Or.inl ⟨by rfl, ?_⟩) ?_ ?_
              rotate_left
              · intro w'
                go_simp
                with_reducible rfl
              rotate_left
              · simp only [Act.put, List.setIfInBounds_toArray, List.set_cons_zero, List.set_cons_succ, i64_w, i32_w]
                rfl
              refine pure_ (i := 15) (N := some 46) (v := ?_) (a' := ?_) #[true, true, true, true, true, true, true, true, true, true, true, true, true, true, true, true, false, false, false, false, false, false, false, false, false] rfl rfl (by kernel_rfl) (fun _ _ _ h => h) (Or.inl ⟨by rfl, ?_⟩) ?_ ?_
              rotate_left
              · intro w'
                go_simp
                with_reducible rfl
              rotate_left
              · simp only [Act.put, List.setIfInBounds_toArray, List.set_cons_zero, List.set_cons_succ, i64_w, i32_w]
                rfl
              refine take_ (i := 16) (N := some 47) (v := .agg (cS s1)) (a' := ?_) #[true, true, true, true, true, true, true, true, true, true, true, true, true, true, true, true, true, false, false, false, false, false, false, false, false] rfl rfl (by kernel_rfl) (fun _ _ _ h => h) (Or.inl ⟨by rfl, fun w' hS => yield_load _ _ rfl _ rfl (HZ.out.2.1 w' hS)⟩) hHeld ?_ ?_
              rotate_left
              · simp only [Act.put, List.setIfInBounds_toArray, List.set_cons_zero, List.set_cons_succ, i64_w, i32_w]
                rfl
              refine pure_ (i := 17) (N := some 48) (v := .agg (cS zS)) (a' := ?_) #[true, true, true, true, true, true, true, true, true, true, true, true, true, true, true, true, true, true, false, false, false, false, false, false, false] rfl rfl (by kernel_rfl) (fun _ _ _ h => h) (Or.inl ⟨by rfl, fun w' => yield_built 27 _ rfl (cS zS) [] (by simp only [List.map_toArray, List.map_nil]) (by kernel_rfl)⟩) ?_ ?_
              rotate_left
              · simp only [Act.put, List.setIfInBounds_toArray, List.set_cons_zero, List.set_cons_succ, i64_w, i32_w]
                rfl
              refine pure_ (i := 18) (N := some 49) (v := .bool z1) (a' := ?_) #[true, true, true, true, true, true, true, true, true, true, true, true, true, true, true, true, true, true, true, false, false, false, false, false, false] rfl rfl (by kernel_rfl) (fun _ _ _ h => h) (Or.inl ⟨by rfl, fun w' => yield_eql _ _ _ _ rfl _ _ rfl rfl gt_S (HE.out.2.1 w')⟩) ?_ ?_
              rotate_left
              · simp only [Act.put, List.setIfInBounds_toArray, List.set_cons_zero, List.set_cons_succ, i64_w, i32_w]
                rfl
              cases z1 with
              | true =>
                refine pure_ (i := 19) (N := some 50) (v := ?_) (a' := ?_) #[true, true, true, true, true, true, true, true, true, true, true, true, true, true, true, true, true, true, true, true, false, false, false, false, false] rfl rfl (by kernel_rfl) (fun _ _ _ h => h) (Or.inl ⟨by rfl, ?_⟩) ?_ ?_
                rotate_left
                · intro w'
                  go_simp
                  with_reducible rfl
                rotate_left
                · simp only [Act.put, List.setIfInBounds_toArray, List.set_cons_zero, List.set_cons_succ, i64_w, i32_w]
                  rfl
                refine pure_ (i := 20) (N := some 51) (v := ?_) (a' := ?_) #[true, true, true, true, true, true, true, true, true, true, true, true, true, true, true, true, true, true, true, true, true, false, false, false, false] rfl rfl (by kernel_rfl) (fun _ _ _ h => h) (Or.inl ⟨by rfl, ?_⟩) ?_ ?_
                rotate_left
                · intro w'
                  go_simp
                  with_reducible rfl
                rotate_left
                · simp only [Act.put, List.setIfInBounds_toArray, List.set_cons_zero, List.set_cons_succ, i64_w, i32_w]
                  rfl
                refine pure_ (i := 21) (N := some 52) (v := undef) (a' := ?_) #[true, true, true, true, true, true, true, true, true, true, true, true, true, true, true, true, true, true, true, true, true, true, false, false, false] rfl rfl (by kernel_rfl) (fun _ _ _ h => h) (Or.inr ⟨by rfl, rfl⟩) ?_ ?_
                rotate_left
                · simp only [Act.put, List.setIfInBounds_toArray, List.set_cons_zero, List.set_cons_succ, i64_w, i32_w]
                  rfl
                refine pure_ (i := 22) (N := some 53) (v := undef) (a' := ?_) #[true, true, true, true, true, true, true, true, true, true, true, true, true, true, true, true, true, true, true, true, true, true, true, false, false] rfl rfl (by kernel_rfl) (fun _ _ _ h => h) (Or.inr ⟨by rfl, rfl⟩) ?_ ?_
                rotate_left
                · simp only [Act.put, List.setIfInBounds_toArray, List.set_cons_zero, List.set_cons_succ, i64_w, i32_w]
                  rfl
                refine pure_ (i := 23) (N := some 54) (v := undef) (a' := ?_) #[true, true, true, true, true, true, true, true, true, true, true, true, true, true, true, true, true, true, true, true, true, true, true, true, false] rfl rfl (by kernel_rfl) (fun _ _ _ h => h) (Or.inr ⟨by rfl, rfl⟩) ?_ ?_
                rotate_left
                · simp only [Act.put, List.setIfInBounds_toArray, List.set_cons_zero, List.set_cons_succ, i64_w, i32_w]
                  rfl
                refine pure_ (i := 24) (N := some 55) (v := ?_) (a' := ?_) #[true, true, true, true, true, true, true, true, true, true, true, true, true, true, true, true, true, true, true, true, true, true, true, true, true] rfl rfl (by kernel_rfl) (fun _ _ _ h => h) (Or.inl ⟨by rfl, ?_⟩) ?_ ?_
                rotate_left
                · intro w'
                  go_simp
                  with_reducible rfl
                rotate_left
                · simp only [Act.put, List.setIfInBounds_toArray, List.set_cons_zero, List.set_cons_succ, i64_w, i32_w]
                  rfl
                refine done_ (by kernel_rfl) ?_
                have HQ := Aside0.mk (below_tr HZ.out.1 hHeld HZ.out.1.size)
                have HM := Aside0.mk (met_hit c5 c6 (HE.out.2.2.2.2.trans (by rfl)))
                clear hHeld
                as_aux_lemma =>
                  go_wp2
                  go_ret
                  refine ⟨?_, HQ.out⟩
                  rw [HM.out]
                  rfl
              | false =>
                refine pure_ (i := 19) (N := some 50) (v := ?_) (a' := ?_) #[true, true, true, true, true, true, true, true, true, true, true, true, true, true, true, true, true, true, true, true, false, false, false, false, false] rfl rfl (by kernel_rfl) (fun _ _ _ h => h) (Or.inl ⟨by rfl, ?_⟩) ?_ ?_
                rotate_left
                · intro w'
                  go_simp
                  with_reducible rfl
                rotate_left
                · simp only [Act.put, List.setIfInBounds_toArray, List.set_cons_zero, List.set_cons_succ, i64_w, i32_w]
                  rfl
                refine pure_ (i := 20) (N := some 51) (v := ?_) (a' := ?_) #[true, true, true, true, true, true, true, true, true, true, true, true, true, true, true, true, true, true, true, true, true, false, false, false, false] rfl rfl (by kernel_rfl) (fun _ _ _ h => h) (Or.inl ⟨by rfl, ?_⟩) ?_ ?_
                rotate_left
                · intro w'
                  go_simp
                  with_reducible rfl
                rotate_left
                · simp only [Act.put, List.setIfInBounds_toArray, List.set_cons_zero, List.set_cons_succ, i64_w, i32_w]
                  rfl
                refine take_ (i := 21) (N := some 52) (v := .agg (cS s2)) (a' := ?_) #[true, true, true, true, true, true, true, true, true, true, true, true, true, true, true, true, true, true, true, true, true, true, false, false, false] rfl rfl (by kernel_rfl) (fun _ _ _ h => h) (Or.inl ⟨by rfl, fun w' hS => yield_load _ _ rfl _ rfl (HZ.out.2.2 w' hS)⟩) hHeld ?_ ?_
                rotate_left
                · simp only [Act.put, List.setIfInBounds_toArray, List.set_cons_zero, List.set_cons_succ, i64_w, i32_w]
                  rfl
                refine pure_ (i := 22) (N := some 53) (v := .agg (cS zS)) (a' := ?_) #[true, true, true, true, true, true, true, true, true, true, true, true, true, true, true, true, true, true, true, true, true, true, true, false, false] rfl rfl (by kernel_rfl) (fun _ _ _ h => h) (Or.inl ⟨by rfl, fun w' => yield_built 27 _ rfl (cS zS) [] (by simp only [List.map_toArray, List.map_nil]) (by kernel_rfl)⟩) ?_ ?_
                rotate_left
                · simp only [Act.put, List.setIfInBounds_toArray, List.set_cons_zero, List.set_cons_succ, i64_w, i32_w]
                  rfl
                refine pure_ (i := 23) (N := some 54) (v := .bool z2) (a' := ?_) #[true, true, true, true, true, true, true, true, true, true, true, true, true, true, true, true, true, true, true, true, true, true, true, true, false] rfl rfl (by kernel_rfl) (fun _ _ _ h => h) (Or.inl ⟨by rfl, fun w' => yield_eql _ _ _ _ rfl _ _ rfl rfl gt_S (HE.out.2.2.1 w')⟩) ?_ ?_
                rotate_left
                · simp only [Act.put, List.setIfInBounds_toArray, List.set_cons_zero, List.set_cons_succ, i64_w, i32_w]
                  rfl
                refine pure_ (i := 24) (N := some 55) (v := ?_) (a' := ?_) #[true, true, true, true, true, true, true, true, true, true, true, true, true, true, true, true, true, true, true, true, true, true, true, true, true] rfl rfl (by kernel_rfl) (fun _ _ _ h => h) (Or.inl ⟨by rfl, ?_⟩) ?_ ?_
                rotate_left
                · intro w'
                  go_simp
                  with_reducible rfl
                rotate_left
                · simp only [Act.put, List.setIfInBounds_toArray, List.set_cons_zero, List.set_cons_succ, i64_w, i32_w]
                  rfl
                cases z2 with
                | true =>
                  refine done_ (by kernel_rfl) ?_
                  have HQ := Aside0.mk (below_tr HZ.out.1 hHeld HZ.out.1.size)
                  have HM := Aside0.mk (met_hit c5 c6 (HE.out.2.2.2.2.trans (by rfl)))
                  clear hHeld
                  as_aux_lemma =>
                    go_wp2
                    go_ret
                    refine ⟨?_, HQ.out⟩
                    rw [HM.out]
                    rfl
                | false =>
                  refine done_ (by kernel_rfl) ?_
                  have HQ := Aside0.mk (below_tr HZ.out.1 hHeld HZ.out.1.size)
                  have hm1 : ∀ k, k < m + 1 → meetB (a.getD n zD) (b.getD k zD) = false := fun k hk => by
                    by_cases hkm : k = m
                    · rw [hkm, HE.out.2.2.2.2]; rfl
                    · exact HU.out k (by omega)
                  have HM := Aside0.mk hm1
                  clear hHeld hm1
                  as_aux_lemma =>
                    go_wp2
                    exact ⟨⟨m + 1, by simp, by omega, HM, HQ⟩, by simp [intOf]; omega⟩
        · obtain rfl : m = b.length := by omega
          have hn1 : ∀ j, j < n + 1 → ∀ k, k < b.length → meetB (a.getD j zD) (b.getD k zD) = false := fun j hj k hk => by
            by_cases hjn : j = n
            · rw [hjn]; exact HU.out k hk
            · exact HT.out j (by omega) k hk
          have HN := Aside0.mk hn1
          clear hn1
          go_wp2
          exact ⟨⟨n + 1, by simp, by omega, HN, HR⟩, by simp [intOf]; omega⟩
    · obtain rfl : n = a.length := by omega
      have hmt := met_none HT.out
      obtain ⟨za, hza⟩ : ∃ z, zeroB a = z := ⟨_, rfl⟩
      obtain ⟨zb, hzb⟩ : ∃ z, zeroB b = z := ⟨_, rfl⟩
      rw [hza, hzb] at hmt
      obtain ⟨la, hla0⟩ : ∃ l : Bool, decide (a.length = 0) = l := ⟨_, rfl⟩
      obtain ⟨lb, hlb0⟩ : ∃ l : Bool, decide (b.length = 0) = l := ⟨_, rfl⟩
      rw [hla0, hlb0] at hmt
      have hla1 : ((a.length : Int) == 0) = la := by rw [← hla0]; by_cases h : a.length = 0 <;> simp [h]
      have hlb1 : ((b.length : Int) == 0) = lb := by rw [← hlb0]; by_cases h : b.length = 0 <;> simp [h]
      have HZA := Aside0.mk (⟨hza, hzb, hmt⟩ : _ ∧ _ ∧ metB a b = _)
      clear hza hzb hla0 hlb0 hmt
      have HRQ := HR
      cases la with
      | true =>
        cases za with
        | true =>
          go_wp2_with (first
            | (go_at_call 50; (with_reducible refine (ZeroX_calls a A ca wr (HS.out.1.below HR.out) hla true HZA.out.1).mono ?_); rintro e w3 ⟨rfl, hb3⟩; have H3 := Aside0.mk (below_tr HR.out hb3 HR.out.size); clear hb3))
          go_ret
          refine ⟨?_, H3.out⟩
          rw [HZA.out.2.2]
          rfl
        | false =>
          go_wp2_with (first
            | (go_at_call 50; (with_reducible refine (ZeroX_calls a A ca wr (HS.out.1.below HR.out) hla false HZA.out.1).mono ?_); rintro e w3 ⟨rfl, hb3⟩; have H3 := Aside0.mk (below_tr HR.out hb3 HR.out.size); clear hb3)
            | (go_at_call 50; (with_reducible refine (ZeroX_calls b Ab cb w3 (HS.out.2.below H3.out) hlb zb HZA.out.2.1).mono ?_); rintro e w4 ⟨rfl, hb4⟩; have H4 := Aside0.mk (below_tr H3.out hb4 H3.out.size); clear hb4))
          go_ret
          refine ⟨?_, H4.out⟩
          rw [HZA.out.2.2]
          rfl
      | false =>
        cases lb with
        | true =>
          cases za with
          | true =>
            go_wp2_with (first
              | (go_at_call 50; (with_reducible refine (ZeroX_calls a A ca wr (HS.out.1.below HR.out) hla true HZA.out.1).mono ?_); rintro e w3 ⟨rfl, hb3⟩; have H3 := Aside0.mk (below_tr HR.out hb3 HR.out.size); clear hb3))
            go_ret
            refine ⟨?_, H3.out⟩
            rw [HZA.out.2.2]
            rfl
          | false =>
            go_wp2_with (first
              | (go_at_call 50; (with_reducible refine (ZeroX_calls a A ca wr (HS.out.1.below HR.out) hla false HZA.out.1).mono ?_); rintro e w3 ⟨rfl, hb3⟩; have H3 := Aside0.mk (below_tr HR.out hb3 HR.out.size); clear hb3)
              | (go_at_call 50; (with_reducible refine (ZeroX_calls b Ab cb w3 (HS.out.2.below H3.out) hlb zb HZA.out.2.1).mono ?_); rintro e w4 ⟨rfl, hb4⟩; have H4 := Aside0.mk (below_tr H3.out hb4 H3.out.size); clear hb4))
            go_ret
            refine ⟨?_, H4.out⟩
            rw [HZA.out.2.2]
            rfl
        | false =>
          go_wp2
          go_ret
          refine ⟨?_, HR.out⟩
          rw [HZA.out.2.2]
          rfl
end Go.Proofs.YtanabbjakacgbaaDoor.Sp

