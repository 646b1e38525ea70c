/- Put together by this session's program out of: Rf Rg Rh Ri Rj Rk Rl Rm Rn Ro St. -/
import Derived.Test.YtanabbjakacgbaaGreatDoorM2
namespace Go.Proofs.YtanabbjakacgbaaGreatDoor.Sp
open Go.RowKit Go.Proofs.YtanabbjakacgbaaGreatDoorW.PrintWords Go.Proofs.YtanabbjakacgbaaGreatDoorW.PrintLast Go.Proofs.YtanabbjakacgbaaGreatDoorW.PrintMore Go.Proofs.YtanabbjakacgbaaGreatDoor.PM
set_option linter.unusedVariables false
set_option linter.unusedSimpArgs false
set_option maxRecDepth 100000
theorem infoB : (Tryz.prog.info? 53).map (fun i => (i.zero, i.size, i.bytes)) = some (some (.slice none 0 0), 1, 24) := by kernel_rfl
section
variable {ops : Array Oper} {rest : List Oper} {o : Oper} {a : Act} {Q : Exit → Act → World → Prop} {w wa W : World}
theorem bs2 (hg : o.guard = none) (x y : Operand) (ho : o.op = .buildSlice 54 2 #[(0, x), (1, y)]) (A1 : Option Addr) (n1 c1 : Nat) (A2 : Option Addr) (n2 c2 : Nat) (hx : a.eval x = .slice A1 n1 c1) (hy : a.eval y = .slice A2 n2 c2)
  (h : wpList Tryz.prog ops Q rest (a.put o.dst (.slice (some ⟨w.heap.size, 0, none⟩) 2 2)) (w.alloc (.cells #[.slice A1 n1 c1, .slice A2 n2 c2] 53))) : wpList Tryz.prog ops Q (o :: rest) a w := by
 obtain ⟨ie, hi, hzz⟩ := Option.map_eq_some_iff.1 infoB
 simp only [Prod.mk.injEq] at hzz
 refine wpList_buildSlice hg 54 53 2 _ ho #[.slice A1 n1 c1, .slice A2 n2 c2] ie (.slice none 0 0) Tryz.underlying54 hi hzz.1 (by rw [hzz.2.1]; omega) (by rw [hzz.2.1]; omega) ?_ h
 have e : (Array.map (fun x : Nat × Operand => (x.1, a.eval x.2)) #[(0, x), (1, y)]).toList = [(0, .slice A1 n1 c1), (1, .slice A2 n2 c2)] := by simp [hx, hy]
 rw [e, hzz.2.1]
 exact fill_two 0 1 (.slice A1 n1 c1) (.slice A2 n2 c2) _ _ (by simp [Value.cells]) (by simp [Value.cells]) (by simp [Value.cells])
end
theorem two_rows {w : World} {g : Nat} {fr : Nat × Nat} {A1 : Option Addr} {c1 : Nat} {p1 : List Int} {A2 : Option Addr} {c2 : Nat} {p2 : List Int} (hg : w.heap[g]? = some (.cells #[.slice A1 p1.length c1, .slice A2 p2.length c2] 53 fr))
  (h1 : (Kd.int .u8).C w A1 p1.length p1) (hc1 : p1.length ≤ c1) (h2 : (Kd.int .u8).C w A2 p2.length p2) (hc2 : p2.length ≤ c2) : Kd.C (Kd.slice 5 (Kd.int .u8)) w (some ⟨g, 0, none⟩) [p1, p2].length [p1, p2] := by
 refine ⟨rfl, by simp, fun _ => ⟨⟨g, 0, none⟩, rfl, fun j p hj => ?_⟩⟩
 have hcell : ∀ j, w.cell? ((⟨g, 0, none⟩ : Addr).add j) = (#[Value.slice A1 p1.length c1, Value.slice A2 p2.length c2] : Array Value)[j]? := fun j => by
  rw [add_plain, cell_of_row w g j _ 53 fr hg]
 match j, hj with
 | 0, hj =>
  obtain rfl : p1 = p := by simpa using hj
  refine ⟨[.slice A1 p1.length c1], rfl, ⟨A1, c1, rfl, hc1, h1⟩, fun i u hi => ?_⟩
  obtain ⟨rfl, rfl⟩ : i = 0 ∧ u = .slice A1 p1.length c1 := by
   match i, hi with
   | 0, hi => exact ⟨rfl, by simpa using hi.symm⟩
  exact hcell _
 | 1, hj =>
  obtain rfl : p2 = p := by simpa using hj
  refine ⟨[.slice A2 p2.length c2], rfl, ⟨A2, c2, rfl, hc2, h2⟩, fun i u hi => ?_⟩
  obtain ⟨rfl, rfl⟩ : i = 0 ∧ u = .slice A2 p2.length c2 := by
   match i, hi with
   | 0, hi => exact ⟨rfl, by simpa using hi.symm⟩
  exact hcell _
theorem sum_C {w : World} {ad : Addr} {x : Sm} (hc : ∀ j u, (cS x).toList[j]? = some u → w.cell? (ad.add j) = some u) : (Kd.int .u8).C w (some ad) x.b.length x.b := by
 refine Kd.C_of_reads (enc := Value.int .u8) (d := (0 : Int)) ⟨rfl, by rw [x.h]; omega, fun _ => ⟨ad, rfl, fun j hj => hc j _ ?_⟩⟩
 rw [cS, encI]
 simp only [List.toList_toArray]
 rw [List.getElem?_map, List.getD_eq_getElem?_getD, List.getElem?_eq_getElem hj]
 rfl
theorem row_cells {w : World} {g t : Nat} {cs : Array Value} {fr : Nat × Nat} (hg : w.heap[g]? = some (.cells cs t fr)) : ∀ j u, cs.toList[j]? = some u → w.cell? ((⟨g, 0, none⟩ : Addr).add j) = some u := by
 intro j u hj
 rw [add_plain, cell_of_row w g j _ t fr hg]
 simpa using hj
def leafH (x : Lf) : Sm := hof 76 [bytesOf x.k, x.v.b]
def nodeH (a b : Sm) : Sm := hof 78 [a.b, b.b]
end Go.Proofs.YtanabbjakacgbaaGreatDoor.Sp
namespace Go.Proofs.YtanabbjakacgbaaGreatDoor.Sp
open Go.RowKit Go.Proofs.YtanabbjakacgbaaGreatDoorW.PrintWords Go.Proofs.YtanabbjakacgbaaGreatDoorW.PrintLast Go.Proofs.YtanabbjakacgbaaGreatDoorW.PrintMore Go.Proofs.YtanabbjakacgbaaGreatDoor.PM
set_option linter.unusedVariables false
set_option linter.unusedSimpArgs false
set_option maxRecDepth 100000
theorem size_alloc (w : World) (o : Obj) : (w.alloc o).heap.size = w.heap.size + 1 := by show (w.heap.push o).size = _; rw [Array.size_push]
theorem Fit2 {a b : List Int} (ha : a.length ≤ 100000) (hb : b.length ≤ 100000) (ha2 : ∀ x ∈ a, 0 ≤ x ∧ x < 256) (hb2 : ∀ x ∈ b, 0 ≤ x ∧ x < 256) : Fit [a, b] := by
 refine ⟨by simp, fun p hp => ?_⟩
 simp only [List.mem_cons, List.not_mem_nil, or_false] at hp
 rcases hp with rfl | rfl
 ·exact ⟨ha, ha2⟩
 ·exact ⟨hb, hb2⟩
set_option maxHeartbeats 4000000 in
theorem nodem_calls (p q : Sm) (w : World) (hW : Words w) :
  Calls Tryz.prog 61 #[.agg (cS p), .agg (cS q)] w fun e w' => e = .returned (.agg (cS (nodeH p q))) ∧ Below w.heap.size w w' := by
 have hu27 := Tryz.underlying30
 obtain ⟨g, hg⟩ : ∃ g, g = w.heap.size := ⟨_, rfl⟩
 obtain ⟨wb, hwb⟩ : ∃ wb, wb = ((w.alloc (.cells (cS p) 30)).alloc (.cells (cS q) 30)).alloc (.cells (cS zS) 30) := ⟨_, rfl⟩
 have h0 : wb.heap[g]? = some (.cells (cS p) 30 (0, 0)) := by rw [hwb, h_old (by simp only [size_alloc]; omega), h_old (by simp only [size_alloc]; omega)]; exact h_new hg
 have h1 : wb.heap[g + 1]? = some (.cells (cS q) 30 (0, 0)) := by rw [hwb, h_old (by simp only [size_alloc]; omega)]; exact h_new (by rw [size_alloc, hg])
 have h2 : wb.heap[g + 2]? = some (.cells (cS zS) 30 (0, 0)) := by rw [hwb]; exact h_new (by rw [size_alloc, size_alloc, hg])
 have hb : Below w.heap.size w wb := by rw [hwb]; exact below_alloc (below_alloc (below_alloc (Below.refl _ _) _) _) _
 have hs : wb.heap.size = g + 3 := by rw [hwb, size_alloc, size_alloc, size_alloc, hg]
 have HB := Aside0.mk (⟨h0, h1, h2, hb, hs, hW.below hb⟩ : _ ∧ _ ∧ _ ∧ _ ∧ _ ∧ _)
 have HWB := Aside0.mk (show ((w.alloc (.cells (cS p) 30)).alloc (.cells (cS q) 30)).alloc (.cells #[.int .u8 0, .int .u8 0, .int .u8 0, .int .u8 0, .int .u8 0, .int .u8 0, .int .u8 0, .int .u8 0, .int .u8 0, .int .u8 0, .int .u8 0, .int .u8 0, .int .u8 0, .int .u8 0, .int .u8 0, .int .u8 0, .int .u8 0, .int .u8 0, .int .u8 0, .int .u8 0, .int .u8 0, .int .u8 0, .int .u8 0, .int .u8 0, .int .u8 0, .int .u8 0, .int .u8 0, .int .u8 0, .int .u8 0, .int .u8 0, .int .u8 0, .int .u8 0] 30) = wb by rw [hwb, zS_cells])
 clear h0 h1 h2 hb hs hW hwb
 have HG := Aside0.mk hg
 clear hg
 obtain ⟨T, hT⟩ : ∃ T, T = nodeH p q := ⟨_, rfl⟩
 rw [← hT]
 have HT := Aside0.mk hT
 clear hT
 have HF := Aside0.mk (Fit2 (by rw [p.h]; omega) (by rw [q.h]; omega) p.r q.r)
 go_enter Tryz.func61, Tryz.ntmps61
 go_wp2
 rw [HWB.out, ← HG.out]
 refine start_ (n := 5) (S := fun w' => True) (ds := [2, 3, 4]) #[false, false, false, false, false] (by kernel_rfl) rfl rfl trivial (fun hHeld => ?_)
 refine pure_ (i := 0) (N := some 5) (v := ?_) (a' := ?_) #[true, false, false, false, false] rfl rfl (by kernel_rfl) (fun _ _ _ h => h) (Or.inl ⟨by rfl, ?_⟩) ?_ ?_
 rotate_left
 ·intro w'
  go_simp
  with_reducible rfl
 rotate_left
 ·simp only [Act.put, lZa, lZb, lZc, i64_w, i32_w]
  rfl
 refine pure_ (i := 1) (N := some 6) (v := ?_) (a' := ?_) #[true, true, false, false, false] rfl rfl (by kernel_rfl) (fun _ _ _ h => h) (Or.inl ⟨by rfl, ?_⟩) ?_ ?_
 rotate_left
 ·intro w'
  go_simp
  with_reducible rfl
 rotate_left
 ·simp only [Act.put, lZa, lZb, lZc, i64_w, i32_w]
  rfl
 refine tail_ 2 (by kernel_rfl) ?_
 simp only [List.toList_toArray, List.drop_succ_cons, List.drop_zero]
 go_wp2_with (first
  | ((with_reducible refine gate_dst (N := 7) rfl ?_); (refine bs2 rfl (.tmp 5) (.tmp 6) rfl (some ⟨g, 0, none⟩) 32 32 (some ⟨g + 1, 0, none⟩) 32 32 rfl rfl ?_))
  | (go_at_call 79; obtain ⟨wc, hwc⟩ : ∃ wc, wc = (wb.alloc (Obj.cells #[Value.slice (some ⟨g, 0, none⟩) 32 32, Value.slice (some ⟨g + 1, 0, none⟩) 32 32] 53)).drew := ⟨_, rfl⟩; rw [← hwc]; have hbc : Below wb.heap.size wb wc := (by rw [hwc]; exact (below_alloc (Below.refl _ _) _).drew); have hgc : wc.heap[wb.heap.size]? = some (Obj.cells #[Value.slice (some ⟨g, 0, none⟩) 32 32, Value.slice (some ⟨g + 1, 0, none⟩) 32 32] 53 (0, 0)) := (by rw [hwc]; exact h_new rfl); clear hwc; have h0c := (hbc.block g (by have := HB.out.2.2.2.2.1; omega)).trans HB.out.1; have h1c := (hbc.block (g + 1) (by have := HB.out.2.2.2.2.1; omega)).trans HB.out.2.1; have hcc := two_rows (p1 := p.b) (p2 := q.b) (by rw [p.h, q.h]; exact hgc) (sum_C (row_cells h0c)) (by rw [p.h]; omega) (sum_C (row_cells h1c)) (by rw [q.h]; omega); (refine (ofm_calls 78 (by decide) [p.b, q.b] HF.out (some ⟨wb.heap.size, 0, none⟩) 2 wc (HB.out.2.2.2.2.2.below hbc) hcc (by simp)).mono ?_); rw [show hof 78 [p.b, q.b] = T by rw [HT.out, nodeH]]; rintro e w1 ⟨rfl, hb1⟩; have H1 := Aside0.mk (hbc.trans (hb1.mono hbc.size)); clear hb1 hbc hgc h0c h1c hcc)
  | ((with_reducible refine gate_store (t := 30) rfl ?_); (refine wpList_store_row rfl 30 (.tmp 4) (.tmp 8) rfl (g + 2) (cS T) rfl rfl 30 (cS zS) ((H1.out.block _ (by have := HB.out.2.2.2.2.1; omega)).trans HB.out.2.2.1) ?g3 ?g4 (encI_one _) ?_); (case g3 => rw [cS_size]; kernel_rfl); (case g4 => rw [cS_size, cS_size])))
 have hg1 := (H1.out.block (g + 2) (by have := HB.out.2.2.2.2.1; omega)).trans HB.out.2.2.1
 refine bodyPost_ret (v := .agg (cS T)) ?_ rfl ⟨rfl, below_setRow (HB.out.2.2.2.1.trans (H1.out.mono (by have := HB.out.2.2.2.2.1; have := HG.out; omega))) (by have := HG.out; omega)⟩
 exact results_cell_row rfl _ _ (g + 2) 30 _ (0, 0) _ rfl (setRow_heap _ _ _ _ _ _ hg1) hu27 rfl (by rw [cS_size]; kernel_rfl)
set_option maxHeartbeats 4000000 in
theorem leafm_calls (x : Lf) (hk1 : x.k.size ≤ 100000) (w : World) (hW : Words w) :
  Calls Tryz.prog 60 #[.agg (cL x)] w fun e w' => e = .returned (.agg (cS (leafH x))) ∧ Below w.heap.size w w' := by
 have hu27 := Tryz.underlying30
 obtain ⟨g, hg⟩ : ∃ g, g = w.heap.size := ⟨_, rfl⟩
 obtain ⟨wb, hwb⟩ : ∃ wb, wb = (w.alloc (.cells (cL x) 32)).alloc (.cells (cS zS) 30) := ⟨_, rfl⟩
 have h0 : wb.heap[g]? = some (.cells (cL x) 32 (0, 0)) := by rw [hwb, h_old (by simp only [size_alloc]; omega)]; exact h_new hg
 have h1 : wb.heap[g + 1]? = some (.cells (cS zS) 30 (0, 0)) := by rw [hwb]; exact h_new (by rw [size_alloc, hg])
 have hb : Below w.heap.size w wb := by rw [hwb]; exact below_alloc (below_alloc (Below.refl _ _) _) _
 have hs : wb.heap.size = g + 2 := by rw [hwb, size_alloc, size_alloc, hg]
 have hcx := cell_L0 h0
 have HB := Aside0.mk (⟨h0, h1, hb, hs, hW.below hb, hcx⟩ : _ ∧ _ ∧ _ ∧ _ ∧ _ ∧ _)
 have HWB := Aside0.mk (show (w.alloc (.cells (cL x) 32)).alloc (.cells #[.int .u8 0, .int .u8 0, .int .u8 0, .int .u8 0, .int .u8 0, .int .u8 0, .int .u8 0, .int .u8 0, .int .u8 0, .int .u8 0, .int .u8 0, .int .u8 0, .int .u8 0, .int .u8 0, .int .u8 0, .int .u8 0, .int .u8 0, .int .u8 0, .int .u8 0, .int .u8 0, .int .u8 0, .int .u8 0, .int .u8 0, .int .u8 0, .int .u8 0, .int .u8 0, .int .u8 0, .int .u8 0, .int .u8 0, .int .u8 0, .int .u8 0, .int .u8 0] 30) = wb by rw [hwb, zS_cells])
 clear h0 h1 hb hs hW hwb hcx
 have HG := Aside0.mk hg
 clear hg
 obtain ⟨T, hT⟩ : ∃ T, T = leafH x := ⟨_, rfl⟩
 rw [← hT]
 have HT := Aside0.mk hT
 clear hT
 have HF := Aside0.mk (Fit2 (a := bytesOf x.k) (b := x.v.b) (by rw [bytesOf_length]; exact hk1) (by rw [x.v.h]; omega) (bytesOf_ok _) x.v.r)
 go_enter Tryz.func60, Tryz.ntmps60
 go_wp2
 rw [HWB.out, ← HG.out]
 refine start_ (n := 8) (S := fun w' => Below wb.heap.size wb w') (ds := [5, 6, 7]) #[false, false, false, false, false, false, false, false] (by kernel_rfl) rfl rfl (Below.refl _ _).drew (fun hHeld => ?_)
 refine pure_ (i := 0) (N := some 3) (v := ?_) (a' := ?_) #[true, false, false, false, false, false, false, false] rfl rfl (by kernel_rfl) (fun _ _ _ h => h) (Or.inl ⟨by rfl, ?_⟩) ?_ ?_
 rotate_left
 ·intro w'
  go_simp
  with_reducible rfl
 rotate_left
 ·simp only [Act.put, lZa, lZb, lZc, i64_w, i32_w]
  rfl
 refine take_ (i := 1) (N := some 4) (v := ?_) (a' := ?_) #[true, true, false, false, false, false, false, false] rfl rfl (by kernel_rfl) (fun _ _ _ h => h) (Or.inl ⟨by rfl, ?_⟩) hHeld ?_ ?_
 rotate_left
 ·intro w' hS
  have hx := (hS.cell (World.block_lt_of_cell? _ _ HB.out.2.2.2.2.2)).trans HB.out.2.2.2.2.2
  go_simp
  with_reducible rfl
 rotate_left
 ·simp only [Act.put, lZa, lZb, lZc, i64_w, i32_w]
  rfl
 refine pure_ (i := 3) (N := some 6) (v := ?_) (a' := ?_) #[true, true, false, true, false, false, false, false] rfl rfl (by kernel_rfl) (fun _ _ _ h => h) (Or.inl ⟨by rfl, ?_⟩) ?_ ?_
 rotate_left
 ·intro w'
  go_simp
  with_reducible rfl
 rotate_left
 ·simp only [Act.put, lZa, lZb, lZc, i64_w, i32_w]
  rfl
 refine pure_ (i := 4) (N := some 7) (v := ?_) (a' := ?_) #[true, true, false, true, true, false, false, false] rfl rfl (by kernel_rfl) (fun _ _ _ h => h) (Or.inl ⟨by rfl, ?_⟩) ?_ ?_
 rotate_left
 ·intro w'
  go_simp
  with_reducible rfl
 rotate_left
 ·simp only [Act.put, lZa, lZb, lZc, i64_w, i32_w]
  rfl
 refine one_ (i := 2) (N := some 5) #[true, true, true, true, true, false, false, false] rfl rfl (by kernel_rfl) (by decide) (fun K hK => ?_)
 refine value_ (by rfl) rfl (str_value _ rfl x.k rfl Tryz.underlying9 Tryz.underlying53 Tryz.underlying5) ?_
 refine hK.out _ _ (below_tr hHeld (bytes_below' _ _) hHeld.size) (fun hHeld => ?_)
 clear hK K
 refine norm_ (a' := ?_) ?_ ?_
 rotate_left
 ·show Act.put _ (some 5) _ = _
  simp only [Act.put, lZa, lZb, lZc, i64_w, i32_w]
  rfl
 refine tail_ 5 (by kernel_rfl) ?_
 simp only [List.toList_toArray, List.drop_succ_cons, List.drop_zero]
 have hcs := string_C (W := wb.drew) (s := x.k) (by omega)
 have hcap := grownCap_ge wb.drew x.k.size 0 5
 have hsz : (Lib.bytesWorld wb.drew 5 x.k).heap.size = g + 3 := by rw [Lib.bytesWorld_size]; show wb.heap.size + 1 = _; rw [HB.out.2.2.2.1]
 have hcs : Kd.C (Kd.int .u8) (Lib.bytesWorld wb.drew 5 x.k) (some ⟨wb.heap.size, 0, none⟩) (bytesOf x.k).length (bytesOf x.k) := hcs
 obtain ⟨cap, hcp⟩ : ∃ cap, cap = grownCap wb.drew x.k.size 0 5 := ⟨_, rfl⟩
 rw [← hcp] at hcap ⊢
 clear hcp
 rename_i _ hHeld0
 generalize Lib.bytesWorld wb.drew 5 x.k = wd at hcs hsz hHeld ⊢
 have HC := Aside0.mk (⟨hcs, hcap, hsz⟩ : _ ∧ _ ∧ _)
 clear hcs hcap hsz
 go_wp2_with (first
  | ((with_reducible refine gate_dst (N := 8) rfl ?_); (refine bs2 rfl (.tmp 5) (.tmp 7) rfl (some ⟨wb.heap.size, 0, none⟩) x.k.size cap (some ⟨g, 1, none⟩) 32 32 rfl rfl ?_))
  | (go_at_call 79; obtain ⟨wc, hwc⟩ : ∃ wc, wc = wd.alloc (Obj.cells #[Value.slice (some ⟨wb.heap.size, 0, none⟩) x.k.size cap, Value.slice (some ⟨g, 1, none⟩) 32 32] 53) := ⟨_, rfl⟩; rw [← hwc]; have hbc : Below wd.heap.size wd wc := (by rw [hwc]; exact below_alloc (Below.refl _ _) _); have hgc : wc.heap[wd.heap.size]? = some (Obj.cells #[Value.slice (some ⟨wb.heap.size, 0, none⟩) x.k.size cap, Value.slice (some ⟨g, 1, none⟩) 32 32] 53 (0, 0)) := (by rw [hwc]; exact h_new rfl); clear hwc; have hbw := below_tr hHeld hbc hHeld.size; have h0c := (hbw.block g (by have := HB.out.2.2.2.1; omega)).trans HB.out.1; have hcc := two_rows (p1 := bytesOf x.k) (p2 := x.v.b) (by rw [bytesOf_length, x.v.h]; exact hgc) (Kd.C_below HC.out.1 hbc) (by rw [bytesOf_length]; exact HC.out.2.1) (sum_C (at_L1 (row_cells h0c))) (by rw [x.v.h]; omega); (refine (ofm_calls 76 (by decide) [bytesOf x.k, x.v.b] HF.out (some ⟨wd.heap.size, 0, none⟩) 2 wc (HB.out.2.2.2.2.1.below hbw) hcc (by simp)).mono ?_); rw [show hof 76 [bytesOf x.k, x.v.b] = T by rw [HT.out, leafH]]; rintro e w1 ⟨rfl, hb1⟩; have H1 := Aside0.mk (hbw.trans (hb1.mono hbw.size)); clear hb1 hbc hbw hgc h0c hcc)
  | ((with_reducible refine gate_store (t := 30) rfl ?_); (refine wpList_store_row rfl 30 (.tmp 2) (.tmp 9) rfl (g + 1) (cS T) rfl rfl 30 (cS zS) ((H1.out.block _ (by have := HB.out.2.2.2.1; omega)).trans HB.out.2.1) ?g3 ?g4 (encI_one _) ?_); (case g3 => rw [cS_size]; kernel_rfl); (case g4 => rw [cS_size, cS_size])))
 have hg1 := (H1.out.block (g + 1) (by have := HB.out.2.2.2.1; omega)).trans HB.out.2.1
 refine bodyPost_ret (v := .agg (cS T)) ?_ rfl ⟨rfl, below_setRow (HB.out.2.2.1.trans (H1.out.mono (by have := HB.out.2.2.2.1; have := HG.out; omega))) (by have := HG.out; omega)⟩
 exact results_cell_row rfl _ _ (g + 1) 30 _ (0, 0) _ rfl (setRow_heap _ _ _ _ _ _ hg1) hu27 rfl (by rw [cS_size]; kernel_rfl)
end Go.Proofs.YtanabbjakacgbaaGreatDoor.Sp
namespace Go.Proofs.YtanabbjakacgbaaGreatDoor.Sp
open Go.RowKit Go.Proofs.YtanabbjakacgbaaGreatDoorW.PrintWords Go.Proofs.YtanabbjakacgbaaGreatDoorW.PrintLast Go.Proofs.YtanabbjakacgbaaGreatDoorW.PrintMore Go.Proofs.YtanabbjakacgbaaGreatDoor.PM
set_option linter.unusedVariables false
set_option linter.unusedSimpArgs false
set_option maxRecDepth 100000
theorem all_one {cs : Array Value} (h : ∀ u ∈ cs.toList, u.oneCell' = true) : cs.all (·.oneCell') = true := Array.all_eq_true_iff_forall_mem.2 (fun v hv => h v (by simpa using hv))
theorem ld_I {w : World} {g : Nat} {t : TypeId} {x : It} {fr : Nat × Nat} (hg : w.heap[g]? = some (.cells (cI x) t fr)) (m : Nat) : (loadVar 77 ⟨g, 0, none⟩).run Tryz.prog (w.drewN m) = .ok (.agg (cI x)) (w.drewN m) :=
 load_row hg 77 Tryz.underlying77 rfl (by rw [cI_size]; kernel_rfl) m
set_option maxHeartbeats 4000000 in
theorem halfm_calls (l : List It) (d : Nat) (hd : d < 256) (b : Int) (A : Option Addr) (c : Nat) (w : World) (hr : kI.C w A l.length l) (hc : l.length ≤ c) (hl : l.length ≤ 100000) :
  Calls Tryz.prog 54 #[.slice A l.length c, .int .i64 d, .int .i64 b] w fun e w' => ∃ v, e = .returned v ∧ kI.R 77 w' w.heap.size (fun _ => True) v (halfOf l d b) ∧ Below w.heap.size w w' := by
 have HS := Aside0.mk hr
 clear hr
 go_enter Tryz.func54, Tryz.ntmps54
 go_wp2
 go_loopw [7, 12] (fun v i wr => ∃ n : Nat, i = .int .i64 (n : Int) ∧ n ≤ l.length ∧ Aside0 (kI.R 77 wr w.heap.size (fun _ => True) v (halfOf (l.take n) d b) ∧ Below w.heap.size w wr)) (fun _ i _ => l.length - (intOf i).toNat)
 case atStart => exact ⟨0, rfl, by omega, ⟨Kd.R_nil _ _ _ _ _, Below.refl _ _⟩⟩
 case round =>
  obtain ⟨n, rfl, hn, HR⟩ := hrel
  by_cases c5 : n < l.length
  ·have c5b : (n : Int) < (l.length : Int) := by omega
   obtain ⟨y, hy⟩ : ∃ y, y = l.getD n zI := ⟨_, rfl⟩
   obtain ⟨ad, eA, hat⟩ := at_flat HS.out zI (n : Int) (by omega) c5b
   subst eA
   rw [show ((n : Int).toNat) = n by omega, ← hy] at hat
   have c5c := eq_true c5b
   have c5d : ((0 : Int) ≤ (n : Int)) = True := eq_true (by omega)
   have hl1 := le_I hat HR.out.2
   clear hat
   have HY := Aside0.mk hy
   clear hy
   have hsucc := Aside0.mk (halfOf_succ c5 d b)
   rw [← HY.out] at hsucc
   obtain ⟨β, hβ⟩ : ∃ β, bitI y.s d = β := ⟨_, rfl⟩
   by_cases hq : β = b
   ·go_wp2_with (first
     | (refine wpList_loadv rfl _ _ rfl _ rfl _ (hl1 0) ?_)
     | ((with_reducible refine gate_store (t := 77) rfl ?_); (refine wpList_store_row rfl 77 (.tmp 9) (.tmp 15) rfl wr.heap.size (cI y) rfl rfl 77 (cI zI) (h_new rfl) ?g3 ?g4 (all_one (cI_one y)) ?_); (case g3 => rw [cI_size]; kernel_rfl); (case g4 => rw [cI_size, cI_size]); generalize hwv : World.setRow _ wr.heap.size (cI y) = wv; have hv1 : wv.heap[wr.heap.size]? = some (.cells (cI y) 77 (0, 0)) := (by rw [← hwv]; exact setRow_heap _ _ _ _ _ _ (h_new rfl)); have hvb : Below wr.heap.size wr wv := (by rw [← hwv]; exact below_setRow (below_alloc (Below.refl _ _) _) (Nat.le_refl _)); clear hwv; have hl2 := le_S (at_I1 (row_cells hv1)) (Below.refl _ _); have HV := Aside0.mk (And.intro hv1 hvb); clear hv1 hvb)
     | (refine wpList_loadv rfl _ _ rfl _ rfl _ (hl2 0) ?_)
     | (go_at_call 64; (refine (bitm_calls y.s d hd _).mono ?_); rw [hβ]; rintro e w1 ⟨rfl, hb1⟩; have hl3 := ld_I ((hb1.block _ (Array.getElem?_eq_some_iff.1 HV.out.1).1).trans HV.out.1); have hb2 := below_tr HV.out.2 hb1 HV.out.2.size; have H2 := Aside0.mk (And.intro (Kd.R_below HR.out.1 hb2) (below_tr HR.out.2 hb2 HR.out.2.size)); clear hb1 hb2 hl1 hl2)
     | (refine wpList_loadv rfl _ _ rfl _ rfl _ (hl3 0) ?_)
     | (refine bs1_I rfl (.tmp 23) rfl y rfl ?_)
     | (refine app_I (wa := w) rfl (.tmp 22) (.tmp 24) rfl u7 _ y rfl rfl w.heap.size H2.out.1 H2.out.2 H2.out.2.size (by have := halfOf_len (l.take n) d b; rw [List.length_take] at this; omega) ?_; intro v1 w1 hr1 hb1 hs1; have H1 := Aside0.mk (And.intro hr1 hb1); clear hr1 hb1 hs1))
    refine ⟨⟨n + 1, by simp, by omega, ⟨?_, H1.out.2⟩⟩, by simp [intOf]; omega⟩
    rw [hsucc.out, hβ, if_pos hq]
    exact H1.out.1
   ·go_wp2_with (first
     | (refine wpList_loadv rfl _ _ rfl _ rfl _ (hl1 0) ?_)
     | ((with_reducible refine gate_store (t := 77) rfl ?_); (refine wpList_store_row rfl 77 (.tmp 9) (.tmp 15) rfl wr.heap.size (cI y) rfl rfl 77 (cI zI) (h_new rfl) ?g3 ?g4 (all_one (cI_one y)) ?_); (case g3 => rw [cI_size]; kernel_rfl); (case g4 => rw [cI_size, cI_size]); generalize hwv : World.setRow _ wr.heap.size (cI y) = wv; have hv1 : wv.heap[wr.heap.size]? = some (.cells (cI y) 77 (0, 0)) := (by rw [← hwv]; exact setRow_heap _ _ _ _ _ _ (h_new rfl)); have hvb : Below wr.heap.size wr wv := (by rw [← hwv]; exact below_setRow (below_alloc (Below.refl _ _) _) (Nat.le_refl _)); clear hwv; have hl2 := le_S (at_I1 (row_cells hv1)) (Below.refl _ _); have HV := Aside0.mk (And.intro hv1 hvb); clear hv1 hvb)
     | (refine wpList_loadv rfl _ _ rfl _ rfl _ (hl2 0) ?_)
     | (go_at_call 64; (refine (bitm_calls y.s d hd _).mono ?_); rw [hβ]; rintro e w1 ⟨rfl, hb1⟩; have hb2 := below_tr HV.out.2 hb1 HV.out.2.size; have H2 := Aside0.mk (And.intro (Kd.R_below HR.out.1 hb2) (below_tr HR.out.2 hb2 HR.out.2.size)); clear hb1 hb2 hl1 hl2))
    refine ⟨⟨n + 1, by simp, by omega, ⟨?_, H2.out.2⟩⟩, by simp [intOf]; omega⟩
    rw [hsucc.out, hβ, if_neg hq, List.append_nil]
    exact H2.out.1
  ·obtain rfl : n = l.length := by omega
   go_wp2
   go_ret
   exact ⟨_, rfl, by have := HR.out.1; rwa [List.take_length] at this, HR.out.2⟩
end Go.Proofs.YtanabbjakacgbaaGreatDoor.Sp
namespace Go.Proofs.YtanabbjakacgbaaGreatDoor.Sp
open Go.RowKit Go.Proofs.YtanabbjakacgbaaGreatDoorW.PrintWords Go.Proofs.YtanabbjakacgbaaGreatDoorW.PrintLast Go.Proofs.YtanabbjakacgbaaGreatDoorW.PrintMore Go.Proofs.YtanabbjakacgbaaGreatDoor.PM
set_option linter.unusedVariables false
set_option linter.unusedSimpArgs false
set_option maxRecDepth 100000
theorem put_I {W : World} {B g n cap : Nat} {xs : List It} (h : kI.R 77 W B (fun _ => True) (.slice (some ⟨g, 0, none⟩) n cap) xs) (i : Nat) (hi : i < n) (y : It) :
  W.there g (i * 65) 65 ∧ kI.R 77 (W.setCells g (i * 65) (cI y).toList) B (fun _ => True) (.slice (some ⟨g, 0, none⟩) n cap) (xs.set i y) ∧ W.grownBy (W.setCells g (i * 65) (cI y).toList) (some g) := by
 obtain ⟨c, hcl, hM, hcc, hfr⟩ := Kd.R_elem h zI (i : Int) (by omega) (by omega)
 have hcl : c.length = 65 := hcl
 have hcc : ∀ j u, c[j]? = some u → W.cell? ⟨g, i * 65 + j, none⟩ = some u := hcc
 have hp := Kd.R_seg h (i : Int) (by omega) (by omega) (c := c) (seg := (cI y).toList) (j := 0) (x' := y) (okp := fun _ => False) hcl hcc (by rw [Array.length_toList, cI_size]; exact Nat.le_refl 65) (by rw [List.take_zero, List.nil_append, List.drop_of_length_le (by show c.length ≤ 0 + (cI y).toList.length; rw [Array.length_toList (xs := cI y), cI_size, hcl]; omega), List.append_nil]; exact rfl) (fun _ hk => hk.elim)
 refine ⟨fun j hj => ⟨?_, hfr j⟩, hp.1, hp.2⟩
 have hj' : j < c.length := by omega
 rw [hcc j _ (List.getElem?_eq_getElem hj')]
 rfl
theorem set_rep {α : Type} (a : List α) (z y : α) (m : Nat) : (a ++ List.replicate (m + 1) z).set a.length y = (a ++ [y]) ++ List.replicate m z := by
 rw [List.set_append_right _ _ (Nat.le_refl _), Nat.sub_self, List.replicate_succ, List.set_cons_zero, List.append_assoc]
 rfl
set_option maxHeartbeats 4000000 in
theorem itemsm_calls (l : List Lf) (A : Option Addr) (c : Nat) (w : World) (hW : Words w) (hr : kL.C w A l.length l) (hc : l.length ≤ c) (hl : Small l) :
  Calls Tryz.prog 35 #[.slice A l.length c] w fun e w' => ∃ v, e = .returned v ∧ kI.R 77 w' w.heap.size (fun _ => True) v (itemsOf l) ∧ Below w.heap.size w w' := by
 have HS := Aside0.mk hr
 have HL := Aside0.mk hl.2
 have HW := Aside0.mk hW
 have hl := hl.1
 clear hr hW
 go_enter Tryz.func35, Tryz.ntmps35
 go_wp2_with (first
  | ((with_reducible refine gate_dst (N := 8) rfl ?_); (refine Kd.R_make kI (w0 := w) w.heap.size 77 rfl (N := 8) rfl 69 _ _ rfl (l.length : Int) rfl rfl Tryz.underlying69 (.agg (cI zI)) 80 infoI (cI_size _) (by decide) (by decide) zI (ok := fun _ => True) (okp := fun _ => False) rfl (fun _ hk => hk.elim) trivial (by omega) (by rw [Int.toNat_natCast]; omega) (Below.refl _ _) (Nat.le_refl _) ?_); intro v1 w1 hr1 hb1 hg1 hn1; have H0 := Aside0.mk (And.intro hr1 hb1); clear hr1 hb1 hg1 hn1))
 go_loopw [11] (fun i wr => ∃ n : Nat, i = .int .i64 (n : Int) ∧ n ≤ l.length ∧ Aside0 (kI.R 77 wr w.heap.size (fun _ => True) v1 (itemsOf (l.take n) ++ List.replicate (l.length - n) zI) ∧ Below w.heap.size w wr)) (fun i _ => l.length - (intOf i).toNat)
 case atStart => exact ⟨0, rfl, by omega, ⟨by have := H0.out.1; rwa [Int.toNat_natCast] at this, H0.out.2⟩⟩
 case round =>
  clear H0
  obtain ⟨n, rfl, hn, HR⟩ := hrel
  by_cases c5 : n < l.length
  ·have c5b : (n : Int) < (l.length : Int) := by omega
   obtain ⟨y, hy⟩ : ∃ y, y = l.getD n zL := ⟨_, rfl⟩
   obtain ⟨ad, eA, hat⟩ := at_flat HS.out zL (n : Int) (by omega) c5b
   subst eA
   rw [show ((n : Int).toNat) = n by omega, ← hy] at hat
   have c5c := eq_true c5b
   have c5d : ((0 : Int) ≤ (n : Int)) = True := eq_true (by omega)
   have hl1 := le_L hat HR.out.2
   have hkey : y.k.size ≤ 1000000 := HL.out y (by rw [hy]; exact getD_mem' c5)
   clear hat
   have HY := Aside0.mk hy
   clear hy
   have hxl : (itemsOf (l.take n) ++ List.replicate (l.length - n) zI).length = l.length := by rw [List.length_append, List.length_replicate, itemsOf, List.length_map, List.length_take]; omega
   obtain ⟨go, cap, ev, hgb, hgo, _⟩ := Kd.R_form HR.out.1 (by rw [hxl]; omega)
   rw [hxl] at ev
   subst ev
   obtain ⟨s, hs⟩ : ∃ s, hk y.k = s := ⟨_, rfl⟩
   have HZ := Aside0.mk (show itemOf y = ⟨y, s⟩ by rw [itemOf, hs])
   have HX := Aside0.mk hxl
   clear hxl
   go_wp2_with (first
    | (refine wpList_loadv rfl _ _ rfl _ rfl _ (hl1 0) ?_)
    | ((with_reducible refine gate_store (t := 32) rfl ?_); (refine wpList_store_row rfl 32 (.tmp 5) (.tmp 15) rfl wr.heap.size (cL y) rfl rfl 32 (cL zL) (h_new rfl) ?g3 ?g4 (all_one (cL_one y)) ?_); (case g3 => rw [cL_size]; kernel_rfl); (case g4 => rw [cL_size, cL_size]); generalize hwv : World.setRow _ wr.heap.size (cL y) = wv; have hv1 : wv.heap[wr.heap.size]? = some (.cells (cL y) 32 (0, 0)) := (by rw [← hwv]; exact setRow_heap _ _ _ _ _ _ (h_new rfl)); have hvb : Below wr.heap.size wr wv := (by rw [← hwv]; exact below_setRow (below_alloc (Below.refl _ _) _) (Nat.le_refl _)); clear hwv hl1; have HV := Aside0.mk (And.intro hv1 hvb); clear hv1 hvb))
   have hcv := cell_L0 HV.out.1
   have HC := Aside0.mk hcv
   clear hcv
   refine start_ (n := 10) (S := fun w' => Below wv.heap.size wv w') (ds := [7, 8, 9]) #[false, false, false, false, false, false, false, false, false, false] (by kernel_rfl) rfl rfl (Below.refl _ _).drew (fun hHeld => ?_)
   refine pure_ (i := 0) (N := some 16) (v := ?_) (a' := ?_) #[true, false, false, false, false, false, false, false, false, false] rfl rfl (by kernel_rfl) (fun _ _ _ h => h) (Or.inl ⟨by rfl, ?_⟩) ?_ ?_
   rotate_left
   ·intro w'
    go_simp
    with_reducible rfl
   rotate_left
   ·simp only [Act.put, lZa, lZb, lZc, i64_w, i32_w]
    rfl
   refine pure_ (i := 1) (N := some 17) (v := ?_) (a' := ?_) #[true, true, false, false, false, false, false, false, false, false] rfl rfl (by kernel_rfl) (fun _ _ _ h => h) (Or.inl ⟨by rfl, ?_⟩) ?_ ?_
   rotate_left
   ·intro w'
    go_simp
    with_reducible rfl
   rotate_left
   ·simp only [Act.put, lZa, lZb, lZc, i64_w, i32_w]
    rfl
   refine take_ (i := 2) (N := some 18) (v := .agg (cL y)) (a' := ?_) #[true, true, true, false, false, false, false, false, false, false] rfl rfl (by kernel_rfl) (fun _ _ _ h => h) (Or.inl ⟨by rfl, fun w' hS => yield_load _ _ rfl _ rfl (ld_L ((hS.block _ (Array.getElem?_eq_some_iff.1 HV.out.1).1).trans HV.out.1) 0)⟩) hHeld ?_ ?_
   rotate_left
   ·simp only [Act.put, lZa, lZb, lZc, i64_w, i32_w]
    rfl
   refine pure_ (i := 3) (N := some 19) (v := ?_) (a' := ?_) #[true, true, true, true, false, false, false, false, false, false] rfl rfl (by kernel_rfl) (fun _ _ _ h => h) (Or.inl ⟨by rfl, ?_⟩) ?_ ?_
   rotate_left
   ·intro w'
    go_simp
    with_reducible rfl
   rotate_left
   ·simp only [Act.put, lZa, lZb, lZc, i64_w, i32_w]
    rfl
   refine take_ (i := 4) (N := some 20) (v := ?_) (a' := ?_) #[true, true, true, true, true, false, false, false, false, false] rfl rfl (by kernel_rfl) (fun _ _ _ h => h) (Or.inl ⟨by rfl, ?_⟩) hHeld ?_ ?_
   rotate_left
   ·intro w' hS
    have hx := (hS.cell (World.block_lt_of_cell? _ _ HC.out)).trans HC.out
    go_simp
    with_reducible rfl
   rotate_left
   ·simp only [Act.put, lZa, lZb, lZc, i64_w, i32_w]
    rfl
   refine one_ (i := 5) (N := some 21) #[true, true, true, true, true, true, false, false, false, false] rfl rfl (by kernel_rfl) (by decide) (fun K hK => ?_)
   refine value_ (by rfl) rfl (str_value _ rfl y.k rfl Tryz.underlying9 Tryz.underlying53 Tryz.underlying5) ?_
   refine hK.out _ _ (below_tr hHeld (bytes_below' _ _) hHeld.size) (fun hHeld => ?_)
   clear hK K
   refine norm_ (a' := ?_) ?_ ?_
   rotate_left
   ·show Act.put _ (some 21) _ = _
    simp only [Act.put, lZa, lZb, lZc, i64_w, i32_w]
    rfl
   refine one_ (i := 6) (N := some 22) #[true, true, true, true, true, true, true, false, false, false] rfl rfl (by kernel_rfl) (by decide) (fun K hK => ?_)
   refine goes_ Tryz.func62 (by kernel_rfl) rfl #[.slice (some ⟨wv.drew.heap.size, 0, none⟩) y.k.size (grownCap wv.drew y.k.size 0 5)] (by rfl) rfl rfl (by simp only [List.map_toArray, List.map_cons, List.map_nil]; rfl) ?_
   refine (sumKm_calls y.k hkey wv.drew (HW.out.below ((HR.out.2.trans (HV.out.2.mono HR.out.2.size)).drew))).mono ?_
   rw [hs]
   rintro e w3 ⟨rfl, hb3⟩
   refine ⟨_, rfl, ?_⟩
   refine hK.out _ _ (below_tr hHeld hb3 hHeld.size) (fun hHeld => ?_)
   clear hK K
   refine norm_ (a' := ?_) ?_ ?_
   rotate_left
   ·show Act.put _ (some 22) _ = _
    simp only [Act.put, lZa, lZb, lZc, i64_w, i32_w]
    rfl
   have hB3 := below_tr HR.out.2 (below_tr HV.out.2 hHeld HV.out.2.size) HR.out.2.size
   have hR3 := Kd.R_below HR.out.1 (below_tr HV.out.2 hHeld HV.out.2.size)
   obtain ⟨hth, hR4, hG4⟩ := put_I hR3 n c5 ⟨y, s⟩
   have HG := Aside0.mk (⟨hR4, hB3.grown hG4 hB3.size (fun k hk => by obtain rfl := Option.some.inj hk; exact hgb)⟩ : _ ∧ _)
   clear hR4 hG4 hR3
   have HT := Aside0.mk hth
   clear hth
   refine tail_ 7 (by kernel_rfl) ?_
   simp only [List.toList_toArray, List.drop_succ_cons, List.drop_zero]
   have c6c : ((n : Int) < (l.length : Int)) = True := eq_true (by omega)
   go_wp2_with (first
    | (refine bld_I rfl (.tmp 18) (.tmp 22) rfl y s rfl rfl ?_)
    | ((with_reducible refine gate_store (t := 77) rfl ?_); (refine wpList_store_mid rfl 77 (.tmp 24) (.tmp 23) rfl go (n * 65) (cI ⟨y, s⟩) rfl rfl ?g3 ?g4 (all_one (cI_one _)) ?_); (case g3 => rw [cI_size]; exact HT.out); (case g4 => rw [cI_size]; kernel_rfl)))
   refine ⟨⟨n + 1, by simp, by omega, ⟨?_, HG.out.2⟩⟩, by simp [intOf]; omega⟩
   have h := HG.out.1
   have hln : (itemsOf (l.take n)).length = n := by rw [itemsOf, List.length_map, List.length_take]; omega
   have e : (itemsOf (l.take n) ++ List.replicate (l.length - n) zI).set n ⟨y, s⟩ = itemsOf (l.take (n + 1)) ++ List.replicate (l.length - (n + 1)) zI := by
    have h2 := set_rep (itemsOf (l.take n)) zI ⟨y, s⟩ (l.length - (n + 1))
    rw [hln, show l.length - (n + 1) + 1 = l.length - n by omega] at h2
    rw [h2, take_succ' zL c5, ← HY.out]
    congr 1
    rw [itemsOf, itemsOf, List.map_append, List.map_singleton, HZ.out]
   rw [e] at h
   exact h
  ·obtain rfl : n = l.length := by omega
   go_wp2
   go_ret
   exact ⟨_, rfl, by have := HR.out.1; rwa [List.take_length, Nat.sub_self, List.replicate_zero, List.append_nil] at this, HR.out.2⟩
end Go.Proofs.YtanabbjakacgbaaGreatDoor.Sp
namespace Go.Proofs.YtanabbjakacgbaaGreatDoor.Sp
open Go.RowKit Go.Proofs.YtanabbjakacgbaaGreatDoorW.PrintWords Go.Proofs.YtanabbjakacgbaaGreatDoorW.PrintLast Go.Proofs.YtanabbjakacgbaaGreatDoorW.PrintMore Go.Proofs.YtanabbjakacgbaaGreatDoor.PM
set_option linter.unusedVariables false
set_option linter.unusedSimpArgs false
set_option maxRecDepth 100000
def hashF : Nat → List It → Nat → Sm
 | 0, l, d => leafH (l.getD 0 zI).x
 | k + 1, l, d => if l.length = 0 then zS else if endsOf l d = true then leafH (l.getD 0 zI).x else nodeH (hashF k (halfOf l d 0) (d + 1)) (hashF k (halfOf l d 1) (d + 1))
def hashOf (l : List It) (d : Nat) : Sm := hashF (257 - d) l d
theorem hashOf_eq (l : List It) (d : Nat) (hd : d ≤ 256) : hashOf l d = if l.length = 0 then zS else if endsOf l d = true then leafH (l.getD 0 zI).x else nodeH (hashOf (halfOf l d 0) (d + 1)) (hashOf (halfOf l d 1) (d + 1)) := by
 rw [hashOf, show 257 - d = (256 - d) + 1 by omega, hashF, hashOf, hashOf, show 257 - (d + 1) = 256 - d by omega]
def SmI (l : List It) : Prop := l.length ≤ 100000 ∧ ∀ y ∈ l, y.x.k.size ≤ 100000
theorem SmI.half {l : List It} (h : SmI l) (d : Nat) (b : Int) : SmI (halfOf l d b) := ⟨Nat.le_trans (halfOf_len _ _ _) h.1, fun y hy => h.2 y (List.mem_filter.1 hy).1⟩
theorem ends_lt {l : List It} {d : Nat} (h : endsOf l d = false) : d < 256 ∧ 1 < l.length := by
 simp only [endsOf, Bool.or_eq_false_iff, decide_eq_false_iff_not] at h
 omega
set_option maxHeartbeats 8000000 in
theorem hashm_step (d : Nat) (hd : d ≤ 256) (ih : d < 256 → ∀ (l : List It) (A : Option Addr) (c : Nat) (w : World), SmI l → Words w → kI.C w A l.length l → l.length ≤ c →
   Calls Tryz.prog 34 #[.slice A l.length c, .int .i64 ((d : Int) + 1)] w fun e w' => e = .returned (.agg (cS (hashOf l (d + 1)))) ∧ Below w.heap.size w w')
  (l : List It) (A : Option Addr) (c : Nat) (w : World) (hl : SmI l) (hW : Words w) (hr : kI.C w A l.length l) (hc : l.length ≤ c) :
  Calls Tryz.prog 34 #[.slice A l.length c, .int .i64 d] w fun e w' => e = .returned (.agg (cS (hashOf l d))) ∧ Below w.heap.size w w' := by
 have hu27 := Tryz.underlying30
 obtain ⟨g, hg⟩ : ∃ g, g = w.heap.size := ⟨_, rfl⟩
 obtain ⟨wb, hwb⟩ : ∃ wb, wb = w.alloc (.cells (cS zS) 30) := ⟨_, rfl⟩
 have h0 : wb.heap[g]? = some (.cells (cS zS) 30 (0, 0)) := by rw [hwb]; exact h_new hg
 have hb : Below w.heap.size w wb := by rw [hwb]; exact below_alloc (Below.refl _ _) _
 have hs : wb.heap.size = g + 1 := by rw [hwb, size_alloc, hg]
 have HB := Aside0.mk (⟨h0, hb, hs, hW.below hb, Kd.C_below hr hb⟩ : _ ∧ _ ∧ _ ∧ _ ∧ _)
 have HWB := Aside0.mk (show w.alloc (.cells #[.int .u8 0, .int .u8 0, .int .u8 0, .int .u8 0, .int .u8 0, .int .u8 0, .int .u8 0, .int .u8 0, .int .u8 0, .int .u8 0, .int .u8 0, .int .u8 0, .int .u8 0, .int .u8 0, .int .u8 0, .int .u8 0, .int .u8 0, .int .u8 0, .int .u8 0, .int .u8 0, .int .u8 0, .int .u8 0, .int .u8 0, .int .u8 0, .int .u8 0, .int .u8 0, .int .u8 0, .int .u8 0, .int .u8 0, .int .u8 0, .int .u8 0, .int .u8 0] 30) = wb by rw [hwb, zS_cells])
 clear h0 hb hs hW hwb hr
 have HG := Aside0.mk hg
 clear hg
 obtain ⟨T, hT⟩ : ∃ T, T = hashOf l d := ⟨_, rfl⟩
 have HT := Aside0.mk (hT.trans (hashOf_eq l d hd))
 rw [← hT]
 clear hT
 have HL := Aside0.mk hl
 have hl0 := hl.1
 clear hl
 have HIH := Aside0.mk ih
 clear ih
 go_enter Tryz.func34, Tryz.ntmps34
 by_cases h0 : l.length = 0
 ·have h0b : ((l.length : Int) == 0) = true := by simp [h0]
  have hT0 : T = zS := by rw [HT.out, if_pos h0]
  subst hT0
  go_wp2_with (first
   | ((with_reducible refine gate_dst (N := 9) rfl ?_); (refine wpList_built0 rfl 30 rfl (cS zS) (by kernel_rfl) ?_))
   | ((with_reducible refine gate_store (t := 30) rfl ?_); rw [HWB.out, ← HG.out]; (refine wpList_store_row rfl 30 (.tmp 4) (.tmp 9) rfl g (cS zS) rfl rfl 30 (cS zS) HB.out.1 ?g3 ?g4 (encI_one _) ?_); (case g3 => rw [cS_size]; kernel_rfl); (case g4 => rw [cS_size])))
  refine bodyPost_ret (v := .agg (cS zS)) ?_ rfl ⟨rfl, below_setRow HB.out.2.1 (by have := HG.out; omega)⟩
  exact results_cell_row rfl _ _ g 30 _ (0, 0) _ rfl (setRow_heap _ _ _ _ _ _ HB.out.1) hu27 rfl (by rw [cS_size]; kernel_rfl)
 ·have h0b : ((l.length : Int) == 0) = false := by simp [h0]
  have h0c : ¬ ((l.length : Int) = 0) := by omega
  by_cases hen : endsOf l d = true
  ·obtain ⟨y, hy⟩ : ∃ y, y = l.getD 0 zI := ⟨_, rfl⟩
   have hT1 : leafH y.x = T := by rw [HT.out, if_neg h0, if_pos hen, hy]
   obtain ⟨ad, eA, hat⟩ := at_flat HB.out.2.2.2.2 zI (0 : Int) (by omega) (by omega)
   subst eA
   rw [show ((0 : Int).toNat) = 0 from rfl, ← hy, Nat.zero_mul, Addr.add_zero'] at hat
   have hl1 := le_L (at_I0 hat) (Below.refl _ _)
   have hky : y.x.k.size ≤ 100000 := HL.out.2 y (by rw [hy]; exact getD_mem' (by omega))
   clear hat
   have HY := Aside0.mk hy
   clear hy
   have c5b : ((0 : Int) < (l.length : Int)) = True := eq_true (by omega)
   have c5n : (0 < l.length) = True := eq_true (by omega)
   go_wp2_with (first
    | (go_at_call 52; rw [HWB.out, ← HG.out]; (refine (endsm_calls l d hd _ _ _).mono ?_); rw [hen]; rintro e w1 ⟨rfl, e1⟩; rw [e1]; clear e1)
    | (refine wpList_loadv rfl _ _ rfl _ rfl _ (hl1 0) ?_)
    | (go_at_call 60; (refine (leafm_calls y.x hky _ HB.out.2.2.2.1).mono ?_); rw [hT1]; rintro e w1 ⟨rfl, hb1⟩; have H1 := Aside0.mk hb1; clear hb1)
    | ((with_reducible refine gate_store (t := 30) rfl ?_); (refine wpList_store_row rfl 30 (.tmp 4) (.tmp 18) rfl g (cS T) rfl rfl 30 (cS zS) ((H1.out.block _ (by have := HB.out.2.2.1; omega)).trans HB.out.1) ?g3 ?g4 (encI_one _) ?_); (case g3 => rw [cS_size]; kernel_rfl); (case g4 => rw [cS_size, cS_size])))
   refine bodyPost_ret (v := .agg (cS T)) ?_ rfl ⟨rfl, below_setRow (HB.out.2.1.trans (H1.out.mono (by have := HB.out.2.2.1; have := HG.out; omega))) (by have := HG.out; omega)⟩
   exact results_cell_row rfl _ _ g 30 _ (0, 0) _ rfl (setRow_heap _ _ _ _ _ _ ((H1.out.block g (by have := HB.out.2.2.1; omega)).trans HB.out.1)) hu27 rfl (by rw [cS_size]; kernel_rfl)
  ·have hen0 : endsOf l d = false := by simpa using hen
   obtain ⟨hd1, hl1⟩ := ends_lt hen0
   obtain ⟨L0, hL0⟩ : ∃ x, halfOf l d 0 = x := ⟨_, rfl⟩
   obtain ⟨L1, hL1⟩ : ∃ x, halfOf l d 1 = x := ⟨_, rfl⟩
   have HS0 := Aside0.mk (show SmI L0 by rw [← hL0]; exact HL.out.half d 0)
   have HS1 := Aside0.mk (show SmI L1 by rw [← hL1]; exact HL.out.half d 1)
   obtain ⟨p, hp⟩ : ∃ p, p = hashOf L0 (d + 1) := ⟨_, rfl⟩
   obtain ⟨q, hq⟩ : ∃ q, q = hashOf L1 (d + 1) := ⟨_, rfl⟩
   have hT1 : nodeH p q = T := by rw [HT.out, if_neg h0, if_neg hen, hL0, hL1, hp, hq]
   have HP := Aside0.mk (And.intro hp hq)
   have HH := Aside0.mk (And.intro hL0 hL1)
   clear hp hq hL0 hL1
   go_wp2_with (first
    | (go_at_call 52; rw [HWB.out, ← HG.out]; (with_reducible refine (endsm_calls l d hd _ _ _).mono ?_); rw [hen0]; rintro e w1 ⟨rfl, e1⟩; rw [e1]; clear e1)
    | (go_at_call 54; (with_reducible refine (halfm_calls l d hd1 0 A c wb HB.out.2.2.2.2 hc hl0).mono ?_); rw [HH.out.1]; rintro e w1 ⟨v1, rfl, hv1, hb1⟩; obtain ⟨A1, c1, rfl, hc1, hr1⟩ := Kd.R_reads hv1; have H1 := Aside0.mk (⟨hr1, hb1, HB.out.2.2.2.1.below hb1, Kd.C_below HB.out.2.2.2.2 hb1⟩ : _ ∧ _ ∧ _ ∧ _); clear hr1 hb1 hv1)
    | (go_at_call 34; (with_reducible refine (HIH.out hd1 L0 A1 c1 _ HS0.out H1.out.2.2.1 H1.out.1 hc1).mono ?_); rw [← HP.out.1]; rintro e w2 ⟨rfl, hb2⟩; have H2 := Aside0.mk (⟨below_tr H1.out.2.1 hb2 H1.out.2.1.size, H1.out.2.2.1.below hb2, Kd.C_below H1.out.2.2.2 hb2⟩ : _ ∧ _ ∧ _); clear hb2)
    | (go_at_call 54; (with_reducible refine (halfm_calls l d hd1 1 A c _ H2.out.2.2 hc hl0).mono ?_); rw [HH.out.2]; rintro e w3 ⟨v3, rfl, hv3, hb3⟩; obtain ⟨A3, c3, rfl, hc3, hr3⟩ := Kd.R_reads hv3; have H3 := Aside0.mk (⟨hr3, below_tr H2.out.1 hb3 H2.out.1.size, H2.out.2.1.below hb3⟩ : _ ∧ _ ∧ _); clear hr3 hb3 hv3)
    | (go_at_call 34; (with_reducible refine (HIH.out hd1 L1 A3 c3 _ HS1.out H3.out.2.2 H3.out.1 hc3).mono ?_); rw [← HP.out.2]; rintro e w4 ⟨rfl, hb4⟩; have H4 := Aside0.mk (⟨below_tr H3.out.2.1 hb4 H3.out.2.1.size, H3.out.2.2.below hb4⟩ : _ ∧ _); clear hb4)
    | (go_at_call 61; (with_reducible refine (nodem_calls p q _ H4.out.2).mono ?_); rw [hT1]; rintro e w5 ⟨rfl, hb5⟩; have H5 := Aside0.mk (below_tr H4.out.1 hb5 H4.out.1.size); clear hb5)
    | ((with_reducible refine gate_store (t := 30) rfl ?_); (refine wpList_store_row rfl 30 (.tmp 4) (.tmp 31) rfl g (cS T) rfl rfl 30 (cS zS) ((H5.out.block _ (by have := HB.out.2.2.1; omega)).trans HB.out.1) ?g3 ?g4 (encI_one _) ?_); (case g3 => rw [cS_size]; kernel_rfl); (case g4 => rw [cS_size, cS_size])))
   refine bodyPost_ret (v := .agg (cS T)) ?_ rfl ⟨rfl, below_setRow (HB.out.2.1.trans (H5.out.mono (by have := HB.out.2.2.1; have := HG.out; omega))) (by have := HG.out; omega)⟩
   exact results_cell_row rfl _ _ g 30 _ (0, 0) _ rfl (setRow_heap _ _ _ _ _ _ ((H5.out.block g (by have := HB.out.2.2.1; omega)).trans HB.out.1)) hu27 rfl (by rw [cS_size]; kernel_rfl)
theorem hashm_ind : ∀ (k d : Nat), 256 - d = k → d ≤ 256 → ∀ (l : List It) (A : Option Addr) (c : Nat) (w : World), SmI l → Words w → kI.C w A l.length l → l.length ≤ c →
  Calls Tryz.prog 34 #[.slice A l.length c, .int .i64 d] w fun e w' => e = .returned (.agg (cS (hashOf l d))) ∧ Below w.heap.size w w' := by
 intro k
 induction k with
 | zero => exact fun d hk hd l A c w h1 h2 h3 h4 => hashm_step d hd (fun h => by omega) l A c w h1 h2 h3 h4
 | succ k ih =>
  intro d hk hd l A c w h1 h2 h3 h4
  refine hashm_step d hd (fun h l A c w h1 h2 h3 h4 => ?_) l A c w h1 h2 h3 h4
  have := ih (d + 1) (by omega) (by omega) l A c w h1 h2 h3 h4
  rwa [show ((d + 1 : Nat) : Int) = (d : Int) + 1 by omega] at this
theorem hashm_calls (l : List It) (d : Nat) (hd : d ≤ 256) (A : Option Addr) (c : Nat) (w : World) (hl : SmI l) (hW : Words w) (hr : kI.C w A l.length l) (hc : l.length ≤ c) :
  Calls Tryz.prog 34 #[.slice A l.length c, .int .i64 d] w fun e w' => e = .returned (.agg (cS (hashOf l d))) ∧ Below w.heap.size w w' := hashm_ind (256 - d) d rfl hd l A c w hl hW hr hc
end Go.Proofs.YtanabbjakacgbaaGreatDoor.Sp
namespace Go.Proofs.YtanabbjakacgbaaGreatDoor.Sp
open Go.RowKit Go.Proofs.YtanabbjakacgbaaGreatDoorW.PrintWords Go.Proofs.YtanabbjakacgbaaGreatDoorW.PrintLast Go.Proofs.YtanabbjakacgbaaGreatDoorW.PrintMore Go.Proofs.YtanabbjakacgbaaGreatDoor.PM
set_option linter.unusedVariables false
set_option linter.unusedSimpArgs false
set_option maxRecDepth 100000
structure Hd where
 t : Int
 ps : List (List Int)
deriving DecidableEq
def leafD (x : Lf) : Hd := ⟨76, [bytesOf x.k, x.v.b]⟩
def nodeD (a b : Sm) : Hd := ⟨78, [a.b, b.b]⟩
def sumD (h : Hd) : Sm := hof h.t h.ps
theorem sumD_leaf (x : Lf) : sumD (leafD x) = leafH x := rfl
theorem sumD_node (a b : Sm) : sumD (nodeD a b) = nodeH a b := rfl
def Rob (w : World) (A : Option Addr) (c : Nat) (ps : List (List Int)) : Prop :=
 ps.length ≤ c ∧ ∀ W : World, (∀ (k : Nat) (o : Obj), w.heap[k]? = some o → (∀ cells fr, o ≠ Obj.cells cells 85 fr) → W.heap[k]? = some o) → Kd.C (Kd.slice 5 (Kd.int .u8)) W A ps.length ps
theorem Rob.now {w : World} {A : Option Addr} {c : Nat} {ps : List (List Int)} (h : Rob w A c ps) : Kd.C (Kd.slice 5 (Kd.int .u8)) w A ps.length ps := h.2 w (fun _ _ h _ => h)
theorem Rob.below {w w1 : World} {A : Option Addr} {c : Nat} {ps : List (List Int)} (h : Rob w A c ps) (hb : Below w.heap.size w w1) : Rob w1 A c ps :=
 ⟨h.1, fun W hW => h.2 W (fun k o hk ho => hW k o ((hb.block k (Array.getElem?_eq_some_iff.1 hk).1).trans hk) ho)⟩
theorem Rob.grown {w w1 : World} {A : Option Addr} {c : Nat} {ps : List (List Int)} (h : Rob w A c ps) {g : Nat} {cells : Array Value} {fr : Nat × Nat} (hg : w.grownBy w1 (some g)) (ho : w.heap[g]? = some (.cells cells 85 fr)) : Rob w1 A c ps :=
 ⟨h.1, fun W hW => h.2 W (fun k o hk hn => hW k o ((hg.block k (Array.getElem?_eq_some_iff.1 hk).1 (fun e => by
  obtain rfl := Option.some.inj e
  rw [ho] at hk
  exact hn _ _ (Option.some.inj hk).symm)).trans hk) hn)⟩
theorem two_one {t : Int} {A : Option Addr} {n c : Nat} : ∀ u ∈ (#[.int .u8 t, .slice A n c] : Array Value).toList, u.oneCell' = true := fun u hu => by
 simp at hu
 rcases hu with rfl | rfl <;> rfl
theorem C_blk {w W : World} {ad : Addr} {n : Nat} {xs : List Int} (h : (Kd.int .u8).C w (some ad) n xs) (hb : W.heap[ad.block]? = w.heap[ad.block]?) : (Kd.int .u8).C W (some ad) n xs := by
 have h2 := Kd.reads_of_C (enc := Value.int .u8) (d := (0 : Int)) h
 refine Kd.C_of_reads (enc := Value.int .u8) (d := (0 : Int)) ⟨h2.1, h2.2.1, fun hn => ?_⟩
 obtain ⟨ad2, e, hc⟩ := h2.2.2 hn
 obtain rfl := Option.some.inj e
 exact ⟨ad, rfl, fun j hj => (World.cell?_of_block (by rw [show (ad.add j).block = ad.block by unfold Addr.add; split <;> rfl]; exact hb)).trans (hc j hj)⟩
set_option maxHeartbeats 4000000 in
theorem node4_calls (p q : Sm) (w : World) :
  Calls Tryz.prog 50 #[.agg (cS p), .agg (cS q)] w fun e w' => ∃ A c, e = .returned (.agg #[.int .u8 78, .slice A 2 c]) ∧ Rob w' A c [p.b, q.b] ∧ Below w.heap.size w w' := by
 have hu91 := Tryz.underlying85
 obtain ⟨g, hg⟩ : ∃ g, g = w.heap.size := ⟨_, rfl⟩
 obtain ⟨wb, hwb⟩ : ∃ wb, wb = ((w.alloc (.cells (cS p) 30)).alloc (.cells (cS q) 30)).alloc (.cells #[.int .u8 0, .slice none 0 0] 85) := ⟨_, rfl⟩
 have h0 : wb.heap[g]? = some (.cells (cS p) 30 (0, 0)) := by rw [hwb, h_old (by simp only [size_alloc]; omega), h_old (by simp only [size_alloc]; omega)]; exact h_new hg
 have h1 : wb.heap[g + 1]? = some (.cells (cS q) 30 (0, 0)) := by rw [hwb, h_old (by simp only [size_alloc]; omega)]; exact h_new (by rw [size_alloc, hg])
 have h2 : wb.heap[g + 2]? = some (.cells #[.int .u8 0, .slice none 0 0] 85 (0, 0)) := by rw [hwb]; exact h_new (by rw [size_alloc, size_alloc, hg])
 have hb : Below w.heap.size w wb := by rw [hwb]; exact below_alloc (below_alloc (below_alloc (Below.refl _ _) _) _) _
 have hs : wb.heap.size = g + 3 := by rw [hwb, size_alloc, size_alloc, size_alloc, hg]
 have HB := Aside0.mk (⟨h0, h1, h2, hb, hs⟩ : _ ∧ _ ∧ _ ∧ _ ∧ _)
 have HWB := Aside0.mk hwb.symm
 clear h0 h1 h2 hb hs hwb
 have HG := Aside0.mk hg
 clear hg
 go_enter Tryz.func50, Tryz.ntmps50
 go_wp2
 rw [HWB.out, ← HG.out]
 refine start_ (n := 5) (S := fun w' => True) (ds := [2, 3, 4]) #[false, false, false, false, false] (by kernel_rfl) rfl rfl trivial (fun hHeld => ?_)
 refine pure_ (i := 0) (N := some 5) (v := ?_) (a' := ?_) #[true, false, false, false, false] rfl rfl (by kernel_rfl) (fun _ _ _ h => h) (Or.inl ⟨by rfl, ?_⟩) ?_ ?_
 rotate_left
 ·intro w'
  go_simp
  with_reducible rfl
 rotate_left
 ·simp only [Act.put, lZa, lZb, lZc, i64_w, i32_w]
  rfl
 refine pure_ (i := 1) (N := some 6) (v := ?_) (a' := ?_) #[true, true, false, false, false] rfl rfl (by kernel_rfl) (fun _ _ _ h => h) (Or.inl ⟨by rfl, ?_⟩) ?_ ?_
 rotate_left
 ·intro w'
  go_simp
  with_reducible rfl
 rotate_left
 ·simp only [Act.put, lZa, lZb, lZc, i64_w, i32_w]
  rfl
 refine tail_ 2 (by kernel_rfl) ?_
 simp only [List.toList_toArray, List.drop_succ_cons, List.drop_zero]
 refine bs2 rfl (.tmp 5) (.tmp 6) rfl (some ⟨g, 0, none⟩) 32 32 (some ⟨g + 1, 0, none⟩) 32 32 rfl rfl ?_
 obtain ⟨wc, hwc⟩ : ∃ wc, wc = (wb.drew.alloc (Obj.cells #[Value.slice (some ⟨g, 0, none⟩) 32 32, Value.slice (some ⟨g + 1, 0, none⟩) 32 32] 53)) := ⟨_, rfl⟩
 rw [← hwc]
 have hbc : Below wb.heap.size wb wc := (by rw [hwc]; exact (below_alloc (Below.refl _ _).drew _))
 have hgc : wc.heap[wb.heap.size]? = some (Obj.cells #[Value.slice (some ⟨g, 0, none⟩) 32 32, Value.slice (some ⟨g + 1, 0, none⟩) 32 32] 53 (0, 0)) := (by rw [hwc]; exact h_new rfl)
 clear hwc
 have HC := Aside0.mk (And.intro hbc hgc)
 clear hbc hgc
 refine wpList_built rfl 85 _ rfl #[.int .u8 78, .slice (some ⟨wb.heap.size, 0, none⟩) 2 2] (by kernel_rfl) ?_
 refine wpList_store_row rfl 85 (.tmp 4) (.tmp 8) rfl (g + 2) #[.int .u8 78, .slice (some ⟨wb.heap.size, 0, none⟩) 2 2] rfl rfl 85 #[.int .u8 0, .slice none 0 0] ((HC.out.1.block _ (by have := HB.out.2.2.2.2; omega)).trans HB.out.2.2.1) ?g3 ?g4 (all_one two_one) ?_
 case g3 => kernel_rfl
 case g4 => rfl
 go_wp2
 have hg1 := (HC.out.1.block (g + 2) (by have := HB.out.2.2.2.2; omega)).trans HB.out.2.2.1
 refine bodyPost_ret (v := .agg #[.int .u8 78, .slice (some ⟨wb.heap.size, 0, none⟩) 2 2]) ?_ rfl ⟨_, _, rfl, ?_, below_setRow (HB.out.2.2.2.1.trans (HC.out.1.mono (by have := HB.out.2.2.2.2; have := HG.out; omega))) (by have := HG.out; omega)⟩
 ·exact results_cell_row rfl _ _ (g + 2) 85 _ (0, 0) _ rfl (setRow_heap _ _ _ _ _ _ hg1) hu91 rfl (by kernel_rfl)
 ·refine ⟨by simp, fun W hW => ?_⟩
  have k0 := hW g _ ((setRow_other _ _ _ _ (by omega)).trans ((HC.out.1.block g (by have := HB.out.2.2.2.2; omega)).trans HB.out.1)) (fun _ _ e => by injection e with _ e; revert e; decide)
  have k1 := hW (g + 1) _ ((setRow_other _ _ _ _ (by omega)).trans ((HC.out.1.block (g + 1) (by have := HB.out.2.2.2.2; omega)).trans HB.out.2.1)) (fun _ _ e => by injection e with _ e; revert e; decide)
  have k2 := hW wb.heap.size _ ((setRow_other _ _ _ _ (by have := HB.out.2.2.2.2; omega)).trans HC.out.2) (fun _ _ e => by injection e with _ e; revert e; decide)
  exact two_rows (p1 := p.b) (p2 := q.b) (by rw [p.h, q.h]; exact k2) (sum_C (row_cells k0)) (by rw [p.h]; omega) (sum_C (row_cells k1)) (by rw [q.h]; omega)
end Go.Proofs.YtanabbjakacgbaaGreatDoor.Sp
namespace Go.Proofs.YtanabbjakacgbaaGreatDoor.Sp
open Go.RowKit Go.Proofs.YtanabbjakacgbaaGreatDoorW.PrintWords Go.Proofs.YtanabbjakacgbaaGreatDoorW.PrintLast Go.Proofs.YtanabbjakacgbaaGreatDoorW.PrintMore Go.Proofs.YtanabbjakacgbaaGreatDoor.PM
set_option linter.unusedVariables false
set_option linter.unusedSimpArgs false
set_option maxRecDepth 100000
set_option maxHeartbeats 4000000 in
theorem leaf4_calls (x : Lf) (hk1 : x.k.size ≤ 100000) (w : World) :
  Calls Tryz.prog 49 #[.agg (cL x)] w fun e w' => ∃ A c, e = .returned (.agg #[.int .u8 76, .slice A 2 c]) ∧ Rob w' A c [bytesOf x.k, x.v.b] ∧ Below w.heap.size w w' := by
 have hu91 := Tryz.underlying85
 obtain ⟨g, hg⟩ : ∃ g, g = w.heap.size := ⟨_, rfl⟩
 obtain ⟨wb, hwb⟩ : ∃ wb, wb = (w.alloc (.cells (cL x) 32)).alloc (.cells #[.int .u8 0, .slice none 0 0] 85) := ⟨_, rfl⟩
 have h0 : wb.heap[g]? = some (.cells (cL x) 32 (0, 0)) := by rw [hwb, h_old (by simp only [size_alloc]; omega)]; exact h_new hg
 have h1 : wb.heap[g + 1]? = some (.cells #[.int .u8 0, .slice none 0 0] 85 (0, 0)) := by rw [hwb]; exact h_new (by rw [size_alloc, hg])
 have hb : Below w.heap.size w wb := by rw [hwb]; exact below_alloc (below_alloc (Below.refl _ _) _) _
 have hs : wb.heap.size = g + 2 := by rw [hwb, size_alloc, size_alloc, hg]
 have hcx := cell_L0 h0
 have HB := Aside0.mk (⟨h0, h1, hb, hs, hcx⟩ : _ ∧ _ ∧ _ ∧ _ ∧ _)
 have HWB := Aside0.mk hwb.symm
 clear h0 h1 hb hs hwb hcx
 have HG := Aside0.mk hg
 clear hg
 go_enter Tryz.func49, Tryz.ntmps49
 go_wp2
 rw [HWB.out, ← HG.out]
 refine start_ (n := 8) (S := fun w' => Below wb.heap.size wb w') (ds := [5, 6, 7]) #[false, false, false, false, false, false, false, false] (by kernel_rfl) rfl rfl (Below.refl _ _).drew (fun hHeld => ?_)
 refine pure_ (i := 0) (N := some 3) (v := ?_) (a' := ?_) #[true, false, false, false, false, false, false, false] rfl rfl (by kernel_rfl) (fun _ _ _ h => h) (Or.inl ⟨by rfl, ?_⟩) ?_ ?_
 rotate_left
 ·intro w'
  go_simp
  with_reducible rfl
 rotate_left
 ·simp only [Act.put, lZa, lZb, lZc, i64_w, i32_w]
  rfl
 refine take_ (i := 1) (N := some 4) (v := ?_) (a' := ?_) #[true, true, false, false, false, false, false, false] rfl rfl (by kernel_rfl) (fun _ _ _ h => h) (Or.inl ⟨by rfl, ?_⟩) hHeld ?_ ?_
 rotate_left
 ·intro w' hS
  have hx := (hS.cell (World.block_lt_of_cell? _ _ HB.out.2.2.2.2)).trans HB.out.2.2.2.2
  go_simp
  with_reducible rfl
 rotate_left
 ·simp only [Act.put, lZa, lZb, lZc, i64_w, i32_w]
  rfl
 refine pure_ (i := 3) (N := some 6) (v := ?_) (a' := ?_) #[true, true, false, true, false, false, false, false] rfl rfl (by kernel_rfl) (fun _ _ _ h => h) (Or.inl ⟨by rfl, ?_⟩) ?_ ?_
 rotate_left
 ·intro w'
  go_simp
  with_reducible rfl
 rotate_left
 ·simp only [Act.put, lZa, lZb, lZc, i64_w, i32_w]
  rfl
 refine pure_ (i := 4) (N := some 7) (v := ?_) (a' := ?_) #[true, true, false, true, true, false, false, false] rfl rfl (by kernel_rfl) (fun _ _ _ h => h) (Or.inl ⟨by rfl, ?_⟩) ?_ ?_
 rotate_left
 ·intro w'
  go_simp
  with_reducible rfl
 rotate_left
 ·simp only [Act.put, lZa, lZb, lZc, i64_w, i32_w]
  rfl
 refine one_ (i := 2) (N := some 5) #[true, true, true, true, true, false, false, false] rfl rfl (by kernel_rfl) (by decide) (fun K hK => ?_)
 refine value_ (by rfl) rfl (str_value _ rfl x.k rfl Tryz.underlying9 Tryz.underlying53 Tryz.underlying5) ?_
 refine hK.out _ _ (below_tr hHeld (bytes_below' _ _) hHeld.size) (fun hHeld => ?_)
 clear hK K
 refine norm_ (a' := ?_) ?_ ?_
 rotate_left
 ·show Act.put _ (some 5) _ = _
  simp only [Act.put, lZa, lZb, lZc, i64_w, i32_w]
  rfl
 refine tail_ 5 (by kernel_rfl) ?_
 simp only [List.toList_toArray, List.drop_succ_cons, List.drop_zero]
 have hcs := string_C (W := wb.drew) (s := x.k) (by omega)
 have hcap := grownCap_ge wb.drew x.k.size 0 5
 have hsz : (Lib.bytesWorld wb.drew 5 x.k).heap.size = g + 3 := by rw [Lib.bytesWorld_size]; show wb.heap.size + 1 = _; rw [HB.out.2.2.2.1]
 have hcs : Kd.C (Kd.int .u8) (Lib.bytesWorld wb.drew 5 x.k) (some ⟨wb.heap.size, 0, none⟩) (bytesOf x.k).length (bytesOf x.k) := hcs
 have hby : ∃ cells fr, (Lib.bytesWorld wb.drew 5 x.k).heap[wb.heap.size]? = some (.cells cells 5 fr) := ⟨_, _, Lib.bytesWorld_at_new wb.drew 5 x.k⟩
 obtain ⟨cap, hcp⟩ : ∃ cap, cap = grownCap wb.drew x.k.size 0 5 := ⟨_, rfl⟩
 rw [← hcp] at hcap ⊢
 clear hcp
 rename_i _ hHeld0
 generalize Lib.bytesWorld wb.drew 5 x.k = wd at hcs hsz hHeld hby ⊢
 obtain ⟨bcs, bfr, hby⟩ := hby
 refine bs2 rfl (.tmp 5) (.tmp 7) rfl (some ⟨wb.heap.size, 0, none⟩) x.k.size cap (some ⟨g, 1, none⟩) 32 32 rfl rfl ?_
 obtain ⟨wc, hwc⟩ : ∃ wc, wc = wd.alloc (Obj.cells #[Value.slice (some ⟨wb.heap.size, 0, none⟩) x.k.size cap, Value.slice (some ⟨g, 1, none⟩) 32 32] 53) := ⟨_, rfl⟩
 rw [← hwc]
 have hbc : Below wd.heap.size wd wc := (by rw [hwc]; exact below_alloc (Below.refl _ _) _)
 have hgc : wc.heap[wd.heap.size]? = some (Obj.cells #[Value.slice (some ⟨wb.heap.size, 0, none⟩) x.k.size cap, Value.slice (some ⟨g, 1, none⟩) 32 32] 53 (0, 0)) := (by rw [hwc]; exact h_new rfl)
 clear hwc
 have hbw := below_tr hHeld hbc hHeld.size
 have hbyc := (hbc.block wb.heap.size (by have := HB.out.2.2.2.1; omega)).trans hby
 have h0c := (hbw.block g (by have := HB.out.2.2.2.1; omega)).trans HB.out.1
 have h1c := (hbw.block (g + 1) (by have := HB.out.2.2.2.1; omega)).trans HB.out.2.1
 have HC := Aside0.mk (⟨Kd.C_below hcs hbc, hcap, hsz, hgc, hbyc, h0c, h1c, hbw⟩ : _ ∧ _ ∧ _ ∧ _ ∧ _ ∧ _ ∧ _ ∧ _)
 clear hcs hcap hsz hbc hgc hby hbyc h0c h1c hbw
 refine wpList_built rfl 85 _ rfl #[.int .u8 76, .slice (some ⟨wd.heap.size, 0, none⟩) 2 2] (by kernel_rfl) ?_
 refine wpList_store_row rfl 85 (.tmp 2) (.tmp 9) rfl (g + 1) #[.int .u8 76, .slice (some ⟨wd.heap.size, 0, none⟩) 2 2] rfl rfl 85 #[.int .u8 0, .slice none 0 0] HC.out.2.2.2.2.2.2.1 ?g3 ?g4 (all_one two_one) ?_
 case g3 => kernel_rfl
 case g4 => rfl
 go_wp2
 refine bodyPost_ret (v := .agg #[.int .u8 76, .slice (some ⟨wd.heap.size, 0, none⟩) 2 2]) ?_ rfl ⟨_, _, rfl, ?_, below_setRow (HB.out.2.2.1.trans (HC.out.2.2.2.2.2.2.2.mono (by have := HB.out.2.2.2.1; have := HG.out; omega))) (by have := HG.out; omega)⟩
 ·exact results_cell_row rfl _ _ (g + 1) 85 _ (0, 0) _ rfl (setRow_heap _ _ _ _ _ _ HC.out.2.2.2.2.2.2.1) hu91 rfl (by kernel_rfl)
 ·refine ⟨by simp, fun W hW => ?_⟩
  have k0 := hW g _ ((setRow_other _ _ _ _ (by omega)).trans HC.out.2.2.2.2.2.1) (fun _ _ e => by injection e with _ e; revert e; decide)
  have k1 := hW wb.heap.size _ ((setRow_other _ _ _ _ (by have := HB.out.2.2.2.1; omega)).trans HC.out.2.2.2.2.1) (fun _ _ e => by injection e with _ e; revert e; decide)
  have k2 := hW wd.heap.size _ ((setRow_other _ _ _ _ (by have := HC.out.2.2.1; omega)).trans HC.out.2.2.2.1) (fun _ _ e => by injection e with _ e; revert e; decide)
  exact two_rows (p1 := bytesOf x.k) (p2 := x.v.b) (by rw [bytesOf_length, x.v.h]; exact k2) (C_blk HC.out.1 (k1.trans HC.out.2.2.2.2.1.symm)) (by rw [bytesOf_length]; exact HC.out.2.1) (sum_C (at_L1 (row_cells k0))) (by rw [x.v.h]; omega)
theorem Fit_leaf (x : Lf) (hk1 : x.k.size ≤ 100000) : Fit [bytesOf x.k, x.v.b] := Fit2 (a := bytesOf x.k) (b := x.v.b) (by rw [bytesOf_length]; exact hk1) (by rw [x.v.h]; omega) (bytesOf_ok _) x.v.r
theorem Fit_node (p q : Sm) : Fit [p.b, q.b] := Fit2 (by rw [p.h]; omega) (by rw [q.h]; omega) p.r q.r
set_option maxHeartbeats 4000000 in
theorem sum4_calls (h : Hd) (ht : 0 ≤ h.t ∧ h.t < 256) (hf : Fit h.ps) (A : Option Addr) (c : Nat) (w : World) (hr : Rob w A c h.ps) :
  Calls Tryz.prog 41 #[.agg #[.int .u8 h.t, .slice A h.ps.length c]] w fun e w' => e = .returned (.agg (cS (sumD h))) ∧ Below w.heap.size w w' := by
 have hu27 := Tryz.underlying30
 obtain ⟨g, hg⟩ : ∃ g, g = w.heap.size := ⟨_, rfl⟩
 obtain ⟨wb, hwb⟩ : ∃ wb, wb = (w.alloc (.cells #[.int .u8 h.t, .slice A h.ps.length c] 85)).alloc (.cells (cS zS) 30) := ⟨_, rfl⟩
 have h0 : wb.heap[g]? = some (.cells #[.int .u8 h.t, .slice A h.ps.length c] 85 (0, 0)) := by rw [hwb, h_old (by simp only [size_alloc]; omega)]; exact h_new hg
 have h1 : wb.heap[g + 1]? = some (.cells (cS zS) 30 (0, 0)) := by rw [hwb]; exact h_new (by rw [size_alloc, hg])
 have hb : Below w.heap.size w wb := by rw [hwb]; exact below_alloc (below_alloc (Below.refl _ _) _) _
 have hs : wb.heap.size = g + 2 := by rw [hwb, size_alloc, size_alloc, hg]
 have hc0 : wb.cell? ⟨g, 0, none⟩ = some (.int .u8 h.t) := (cell_of_row wb g 0 _ _ _ h0).trans rfl
 have hc1 : wb.cell? ⟨g, 1, none⟩ = some (.slice A h.ps.length c) := (cell_of_row wb g 1 _ _ _ h0).trans rfl
 have HB := Aside0.mk (⟨h1, hb, hs, hr.below hb⟩ : _ ∧ _ ∧ _ ∧ _)
 have HWB := Aside0.mk (show (w.alloc (.cells #[.int .u8 h.t, .slice A h.ps.length c] 85)).alloc (.cells #[.int .u8 0, .int .u8 0, .int .u8 0, .int .u8 0, .int .u8 0, .int .u8 0, .int .u8 0, .int .u8 0, .int .u8 0, .int .u8 0, .int .u8 0, .int .u8 0, .int .u8 0, .int .u8 0, .int .u8 0, .int .u8 0, .int .u8 0, .int .u8 0, .int .u8 0, .int .u8 0, .int .u8 0, .int .u8 0, .int .u8 0, .int .u8 0, .int .u8 0, .int .u8 0, .int .u8 0, .int .u8 0, .int .u8 0, .int .u8 0, .int .u8 0, .int .u8 0] 30) = wb by rw [hwb, zS_cells])
 clear h0 h1 hb hs hwb hr
 have HG := Aside0.mk hg
 clear hg
 go_enter Tryz.func41, Tryz.ntmps41
 go_wp2_with (first
  | (go_at_call 25; (refine (of3H_calls h.t ht h.ps hf A c _ HB.out.2.2.2.now HB.out.2.2.2.1).mono ?_); rintro e w1 ⟨rfl, hb1⟩; have H1 := Aside0.mk hb1; clear hb1)
  | ((with_reducible refine gate_store (t := 30) rfl ?_); (refine wpList_store_row rfl 30 (.tmp 2) (.tmp 7) rfl (g + 1) (cS (sumD h)) rfl rfl 30 (cS zS) ((H1.out.block _ (by have := HB.out.2.2.1; omega)).trans HB.out.1) ?g3 ?g4 (encI_one _) ?_); (case g3 => rw [cS_size]; kernel_rfl); (case g4 => rw [cS_size, cS_size]))
  | (rw [HWB.out, ← HG.out]))
 have hg1 := (H1.out.block (g + 1) (by have := HB.out.2.2.1; omega)).trans HB.out.1
 refine bodyPost_ret (v := .agg (cS (sumD h))) ?_ rfl ⟨rfl, below_setRow (HB.out.2.1.trans (H1.out.mono (by have := HB.out.2.2.1; have := HG.out; omega))) (by have := HG.out; omega)⟩
 exact results_cell_row rfl _ _ (g + 1) 30 _ (0, 0) _ rfl (setRow_heap _ _ _ _ _ _ hg1) hu27 rfl (by rw [cS_size]; kernel_rfl)
end Go.Proofs.YtanabbjakacgbaaGreatDoor.Sp
namespace Go.Proofs.YtanabbjakacgbaaGreatDoor.Sp
open Go.RowKit Go.Proofs.YtanabbjakacgbaaGreatDoorW.PrintWords Go.Proofs.YtanabbjakacgbaaGreatDoorW.PrintLast Go.Proofs.YtanabbjakacgbaaGreatDoorW.PrintMore Go.Proofs.YtanabbjakacgbaaGreatDoor.PM
set_option linter.unusedVariables false
set_option linter.unusedSimpArgs false
set_option maxRecDepth 100000
theorem leafD_t (x : Lf) : 0 ≤ (leafD x).t ∧ (leafD x).t < 256 := ⟨by show (0 : Int) ≤ 76; decide, by show (76 : Int) < 256; decide⟩
theorem nodeD_t (p q : Sm) : 0 ≤ (nodeD p q).t ∧ (nodeD p q).t < 256 := ⟨by show (0 : Int) ≤ 78; decide, by show (78 : Int) < 256; decide⟩
set_option maxHeartbeats 8000000 in
theorem hash4_step (d : Nat) (hd : d ≤ 256) (ih : d < 256 → ∀ (l : List It) (A : Option Addr) (c : Nat) (w : World), SmI l → kI.C w A l.length l → l.length ≤ c →
   Calls Tryz.prog 30 #[.slice A l.length c, .int .i64 ((d : Int) + 1)] w fun e w' => e = .returned (.agg (cS (hashOf l (d + 1)))) ∧ Below w.heap.size w w')
  (l : List It) (A : Option Addr) (c : Nat) (w : World) (hl : SmI l) (hr : kI.C w A l.length l) (hc : l.length ≤ c) :
  Calls Tryz.prog 30 #[.slice A l.length c, .int .i64 d] w fun e w' => e = .returned (.agg (cS (hashOf l d))) ∧ Below w.heap.size w w' := by
 have hu27 := Tryz.underlying30
 obtain ⟨g, hg⟩ : ∃ g, g = w.heap.size := ⟨_, rfl⟩
 obtain ⟨wb, hwb⟩ : ∃ wb, wb = w.alloc (.cells (cS zS) 30) := ⟨_, rfl⟩
 have h0 : wb.heap[g]? = some (.cells (cS zS) 30 (0, 0)) := by rw [hwb]; exact h_new hg
 have hb : Below w.heap.size w wb := by rw [hwb]; exact below_alloc (Below.refl _ _) _
 have hs : wb.heap.size = g + 1 := by rw [hwb, size_alloc, hg]
 have HB := Aside0.mk (⟨h0, hb, hs, Kd.C_below hr hb⟩ : _ ∧ _ ∧ _ ∧ _)
 have HWB := Aside0.mk (show w.alloc (.cells #[.int .u8 0, .int .u8 0, .int .u8 0, .int .u8 0, .int .u8 0, .int .u8 0, .int .u8 0, .int .u8 0, .int .u8 0, .int .u8 0, .int .u8 0, .int .u8 0, .int .u8 0, .int .u8 0, .int .u8 0, .int .u8 0, .int .u8 0, .int .u8 0, .int .u8 0, .int .u8 0, .int .u8 0, .int .u8 0, .int .u8 0, .int .u8 0, .int .u8 0, .int .u8 0, .int .u8 0, .int .u8 0, .int .u8 0, .int .u8 0, .int .u8 0, .int .u8 0] 30) = wb by rw [hwb, zS_cells])
 clear h0 hb hs hwb hr
 have HG := Aside0.mk hg
 clear hg
 obtain ⟨T, hT⟩ : ∃ T, T = hashOf l d := ⟨_, rfl⟩
 have HT := Aside0.mk (hT.trans (hashOf_eq l d hd))
 rw [← hT]
 clear hT
 have HL := Aside0.mk hl
 have hl0 := hl.1
 clear hl
 have HIH := Aside0.mk ih
 clear ih
 go_enter Tryz.func30, Tryz.ntmps30
 by_cases h0 : l.length = 0
 ·have h0b : ((l.length : Int) == 0) = true := by simp [h0]
  have hT0 : T = zS := by rw [HT.out, if_pos h0]
  subst hT0
  go_wp2_with (first
   | ((with_reducible refine gate_dst (N := 8) rfl ?_); (refine wpList_built0 rfl 30 rfl (cS zS) (by kernel_rfl) ?_))
   | ((with_reducible refine gate_store (t := 30) rfl ?_); rw [HWB.out, ← HG.out]; (refine wpList_store_row rfl 30 (.tmp 4) (.tmp 8) rfl g (cS zS) rfl rfl 30 (cS zS) HB.out.1 ?g3 ?g4 (encI_one _) ?_); (case g3 => rw [cS_size]; kernel_rfl); (case g4 => rw [cS_size])))
  refine bodyPost_ret (v := .agg (cS zS)) ?_ rfl ⟨rfl, below_setRow HB.out.2.1 (by have := HG.out; omega)⟩
  exact results_cell_row rfl _ _ g 30 _ (0, 0) _ rfl (setRow_heap _ _ _ _ _ _ HB.out.1) hu27 rfl (by rw [cS_size]; kernel_rfl)
 ·have h0b : ((l.length : Int) == 0) = false := by simp [h0]
  have h0c : ¬ ((l.length : Int) = 0) := by omega
  by_cases hen : endsOf l d = true
  ·obtain ⟨y, hy⟩ : ∃ y, y = l.getD 0 zI := ⟨_, rfl⟩
   have hT1 : leafH y.x = T := by rw [HT.out, if_neg h0, if_pos hen, hy]
   obtain ⟨ad, eA, hat⟩ := at_flat HB.out.2.2.2 zI (0 : Int) (by omega) (by omega)
   subst eA
   rw [show ((0 : Int).toNat) = 0 from rfl, ← hy, Nat.zero_mul, Addr.add_zero'] at hat
   have hl1 := le_L (at_I0 hat) (Below.refl _ _)
   have hky : y.x.k.size ≤ 100000 := HL.out.2 y (by rw [hy]; exact getD_mem' (by omega))
   clear hat
   have HY := Aside0.mk hy
   clear hy
   have c5b : ((0 : Int) < (l.length : Int)) = True := eq_true (by omega)
   have c5n : (0 < l.length) = True := eq_true (by omega)
   go_wp2_with (first
    | (go_at_call 28; rw [HWB.out, ← HG.out]; (refine (ends4_calls l d hd _ _ _).mono ?_); rw [hen]; rintro e w1 ⟨rfl, e1⟩; rw [e1]; clear e1)
    | (refine wpList_loadv rfl _ _ rfl _ rfl _ (hl1 0) ?_)
    | (go_at_call 49; (refine (leaf4_calls y.x hky _).mono ?_); rintro e w0 ⟨A0, c0, rfl, hr0, hb0⟩; have H0 := Aside0.mk (And.intro hr0 hb0); clear hr0 hb0)
    | (go_at_call 41; (refine (sum4_calls (leafD y.x) (leafD_t _) (Fit_leaf y.x hky) A0 c0 _ H0.out.1).mono ?_); rw [sumD_leaf, hT1]; rintro e w1 ⟨rfl, hb1⟩; have H1 := Aside0.mk (below_tr H0.out.2 hb1 H0.out.2.size); clear hb1)
    | ((with_reducible refine gate_store (t := 30) rfl ?_); go_loud (refine wpList_store_row rfl 30 (.tmp 4) (.tmp 17) rfl g (cS T) rfl rfl 30 (cS zS) ((H1.out.block _ (by have := HB.out.2.2.1; omega)).trans HB.out.1) ?g3 ?g4 (encI_one _) ?_); (case g3 => rw [cS_size]; kernel_rfl); (case g4 => rw [cS_size, cS_size])))
   refine bodyPost_ret (v := .agg (cS T)) ?_ rfl ⟨rfl, below_setRow (HB.out.2.1.trans (H1.out.mono (by have := HB.out.2.2.1; have := HG.out; omega))) (by have := HG.out; omega)⟩
   exact results_cell_row rfl _ _ g 30 _ (0, 0) _ rfl (setRow_heap _ _ _ _ _ _ ((H1.out.block g (by have := HB.out.2.2.1; omega)).trans HB.out.1)) hu27 rfl (by rw [cS_size]; kernel_rfl)
  ·have hen0 : endsOf l d = false := by simpa using hen
   obtain ⟨hd1, hl1⟩ := ends_lt hen0
   obtain ⟨L0, hL0⟩ : ∃ x, halfOf l d 0 = x := ⟨_, rfl⟩
   obtain ⟨L1, hL1⟩ : ∃ x, halfOf l d 1 = x := ⟨_, rfl⟩
   have HS0 := Aside0.mk (show SmI L0 by rw [← hL0]; exact HL.out.half d 0)
   have HS1 := Aside0.mk (show SmI L1 by rw [← hL1]; exact HL.out.half d 1)
   obtain ⟨p, hp⟩ : ∃ p, p = hashOf L0 (d + 1) := ⟨_, rfl⟩
   obtain ⟨q, hq⟩ : ∃ q, q = hashOf L1 (d + 1) := ⟨_, rfl⟩
   have hT1 : nodeH p q = T := by rw [HT.out, if_neg h0, if_neg hen, hL0, hL1, hp, hq]
   have HP := Aside0.mk (And.intro hp hq)
   have HH := Aside0.mk (And.intro hL0 hL1)
   clear hp hq hL0 hL1
   go_wp2_with (first
    | (go_at_call 28; rw [HWB.out, ← HG.out]; (with_reducible refine (ends4_calls l d hd _ _ _).mono ?_); rw [hen0]; rintro e w1 ⟨rfl, e1⟩; rw [e1]; clear e1)
    | (go_at_call 31; (with_reducible refine (half4_calls l d hd1 0 A c wb HB.out.2.2.2 hc hl0).mono ?_); rw [HH.out.1]; rintro e w1 ⟨v1, rfl, hv1, hb1⟩; obtain ⟨A1, c1, rfl, hc1, hr1⟩ := Kd.R_reads hv1; have H1 := Aside0.mk (⟨hr1, hb1, Kd.C_below HB.out.2.2.2 hb1⟩ : _ ∧ _ ∧ _); clear hr1 hb1 hv1)
    | (go_at_call 30; (with_reducible refine (HIH.out hd1 L0 A1 c1 _ HS0.out H1.out.1 hc1).mono ?_); rw [← HP.out.1]; rintro e w2 ⟨rfl, hb2⟩; have H2 := Aside0.mk (⟨below_tr H1.out.2.1 hb2 H1.out.2.1.size, Kd.C_below H1.out.2.2 hb2⟩ : _ ∧ _); clear hb2)
    | (go_at_call 31; (with_reducible refine (half4_calls l d hd1 1 A c _ H2.out.2 hc hl0).mono ?_); rw [HH.out.2]; rintro e w3 ⟨v3, rfl, hv3, hb3⟩; obtain ⟨A3, c3, rfl, hc3, hr3⟩ := Kd.R_reads hv3; have H3 := Aside0.mk (⟨hr3, below_tr H2.out.1 hb3 H2.out.1.size⟩ : _ ∧ _); clear hr3 hb3 hv3)
    | (go_at_call 30; (with_reducible refine (HIH.out hd1 L1 A3 c3 _ HS1.out H3.out.1 hc3).mono ?_); rw [← HP.out.2]; rintro e w4 ⟨rfl, hb4⟩; have H4 := Aside0.mk (below_tr H3.out.2 hb4 H3.out.2.size); clear hb4)
    | (go_at_call 50; (with_reducible refine (node4_calls p q _).mono ?_); rintro e w0 ⟨A0, c0, rfl, hr0, hb0⟩; have H0 := Aside0.mk (And.intro hr0 (below_tr H4.out hb0 H4.out.size)); clear hr0 hb0)
    | (go_at_call 41; (refine (sum4_calls (nodeD p q) (nodeD_t _ _) (Fit_node p q) A0 c0 _ H0.out.1).mono ?_); rw [sumD_node, hT1]; rintro e w5 ⟨rfl, hb5⟩; have H5 := Aside0.mk (below_tr H0.out.2 hb5 H0.out.2.size); clear hb5)
    | ((with_reducible refine gate_store (t := 30) rfl ?_); go_loud (refine wpList_store_row rfl 30 (.tmp 4) (.tmp 31) rfl g (cS T) rfl rfl 30 (cS zS) ((H5.out.block _ (by have := HB.out.2.2.1; omega)).trans HB.out.1) ?g3 ?g4 (encI_one _) ?_); (case g3 => rw [cS_size]; kernel_rfl); (case g4 => rw [cS_size, cS_size])))
   refine bodyPost_ret (v := .agg (cS T)) ?_ rfl ⟨rfl, below_setRow (HB.out.2.1.trans (H5.out.mono (by have := HB.out.2.2.1; have := HG.out; omega))) (by have := HG.out; omega)⟩
   exact results_cell_row rfl _ _ g 30 _ (0, 0) _ rfl (setRow_heap _ _ _ _ _ _ ((H5.out.block g (by have := HB.out.2.2.1; omega)).trans HB.out.1)) hu27 rfl (by rw [cS_size]; kernel_rfl)
theorem hash4_ind : ∀ (k d : Nat), 256 - d = k → d ≤ 256 → ∀ (l : List It) (A : Option Addr) (c : Nat) (w : World), SmI l → kI.C w A l.length l → l.length ≤ c →
  Calls Tryz.prog 30 #[.slice A l.length c, .int .i64 d] w fun e w' => e = .returned (.agg (cS (hashOf l d))) ∧ Below w.heap.size w w' := by
 intro k
 induction k with
 | zero => exact fun d hk hd l A c w h1 h3 h4 => hash4_step d hd (fun h => by omega) l A c w h1 h3 h4
 | succ k ih =>
  intro d hk hd l A c w h1 h3 h4
  refine hash4_step d hd (fun h l A c w h1 h3 h4 => ?_) l A c w h1 h3 h4
  have := ih (d + 1) (by omega) (by omega) l A c w h1 h3 h4
  rwa [show ((d + 1 : Nat) : Int) = (d : Int) + 1 by omega] at this
theorem hash4_calls (l : List It) (d : Nat) (hd : d ≤ 256) (A : Option Addr) (c : Nat) (w : World) (hl : SmI l) (hr : kI.C w A l.length l) (hc : l.length ≤ c) :
  Calls Tryz.prog 30 #[.slice A l.length c, .int .i64 d] w fun e w' => e = .returned (.agg (cS (hashOf l d))) ∧ Below w.heap.size w w' := hash4_ind (256 - d) d rfl hd l A c w hl hr hc
end Go.Proofs.YtanabbjakacgbaaGreatDoor.Sp
namespace Go.Proofs.YtanabbjakacgbaaGreatDoor.Sp
open Go.RowKit Go.Proofs.YtanabbjakacgbaaGreatDoorW.PrintWords Go.Proofs.YtanabbjakacgbaaGreatDoorW.PrintLast Go.Proofs.YtanabbjakacgbaaGreatDoorW.PrintMore Go.Proofs.YtanabbjakacgbaaGreatDoor.PM
set_option linter.unusedVariables false
set_option linter.unusedSimpArgs false
set_option maxRecDepth 100000
theorem zw (w : World) : w.alloc (.cells (cS zS) 30) = w.alloc (.cells #[.int .u8 0, .int .u8 0, .int .u8 0, .int .u8 0, .int .u8 0, .int .u8 0, .int .u8 0, .int .u8 0, .int .u8 0, .int .u8 0, .int .u8 0, .int .u8 0, .int .u8 0, .int .u8 0, .int .u8 0, .int .u8 0, .int .u8 0, .int .u8 0, .int .u8 0, .int .u8 0, .int .u8 0, .int .u8 0, .int .u8 0, .int .u8 0, .int .u8 0, .int .u8 0, .int .u8 0, .int .u8 0, .int .u8 0, .int .u8 0, .int .u8 0, .int .u8 0] 30) := by rw [zS_cells]
theorem itemsOf_len (l : List Lf) : (itemsOf l).length = l.length := List.length_map _
def SmL (l : List Lf) : Prop := l.length ≤ 100000 ∧ ∀ x ∈ l, x.k.size ≤ 100000
theorem SmL.small {l : List Lf} (h : SmL l) : Small l := ⟨h.1, fun x hx => by have := h.2 x hx; omega⟩
theorem SmL.items {l : List Lf} (h : SmL l) : SmI (itemsOf l) := ⟨by rw [itemsOf_len]; exact h.1, fun y hy => by
 obtain ⟨x, hx, rfl⟩ := List.mem_map.1 hy
 exact h.2 x hx⟩
set_option maxHeartbeats 4000000 in
theorem Node_calls (l : List Lf) (d : Nat) (hd : d ≤ 256) (A : Option Addr) (c : Nat) (w : World) (hr : kL.C w A l.length l) (hc : l.length ≤ c) (hl : SmL l) :
  Calls Tryz.prog 36 #[.slice A l.length c, .int .i64 d] w fun e w' => e = .returned (.agg (cS (hashOf (itemsOf l) d))) ∧ Below w.heap.size w w' := by
 have hu27 := Tryz.underlying30
 obtain ⟨g, hg⟩ : ∃ g, g = w.heap.size := ⟨_, rfl⟩
 obtain ⟨wb, hwb⟩ : ∃ wb, wb = w.alloc (.cells (cS zS) 30) := ⟨_, rfl⟩
 have h0 : wb.heap[g]? = some (.cells (cS zS) 30 (0, 0)) := by rw [hwb]; exact h_new hg
 have hb : Below w.heap.size w wb := by rw [hwb]; exact below_alloc (Below.refl _ _) _
 have hs : wb.heap.size = g + 1 := by rw [hwb, size_alloc, hg]
 have HB := Aside0.mk (⟨h0, hb, hs, Kd.C_below hr hb⟩ : _ ∧ _ ∧ _ ∧ _)
 have HWB := Aside0.mk ((zw w).symm.trans hwb.symm)
 clear h0 hb hs hwb hr
 have HG := Aside0.mk hg
 clear hg
 have HL := Aside0.mk hl
 clear hl
 obtain ⟨T, hT⟩ : ∃ T, T = hashOf (itemsOf l) d := ⟨_, rfl⟩
 have HT := Aside0.mk hT
 rw [← hT]
 clear hT
 have HLn := Aside0.mk (itemsOf_len l)
 obtain ⟨L, hL⟩ : ∃ L, L = itemsOf l := ⟨_, rfl⟩
 rw [← hL] at HT HLn
 have HE := Aside0.mk hL
 clear hL
 go_enter Tryz.func36, Tryz.ntmps36
 go_wp2_with (first
  | (go_at_call 26; rw [HWB.out, ← HG.out]; (refine (items4_calls l A c wb HB.out.2.2.2 hc HL.out.small).mono ?_); rw [← HE.out]; rintro e w1 ⟨v1, rfl, hv1, hb1⟩; obtain ⟨A1, c1, rfl, hc1, hr1⟩ := Kd.R_reads hv1; have H1 := Aside0.mk (And.intro hr1 hb1); clear hr1 hb1 hv1)
  | (go_at_call 30; (refine (hash4_calls L d hd A1 c1 w1 (by rw [HE.out]; exact HL.out.items) H1.out.1 hc1).mono ?_); rw [← HT.out]; rintro e w2 ⟨rfl, hb2⟩; have H2 := Aside0.mk (below_tr H1.out.2 hb2 H1.out.2.size); clear hb2)
  | ((with_reducible refine gate_store (t := 30) rfl ?_); go_loud (refine wpList_store_row rfl 30 (.tmp 4) (.tmp 8) rfl g (cS T) rfl rfl 30 (cS zS) ((H2.out.block _ (by have := HB.out.2.2.1; omega)).trans HB.out.1) ?g3 ?g4 (encI_one _) ?_); (case g3 => rw [cS_size]; kernel_rfl); (case g4 => rw [cS_size, cS_size])))
 refine bodyPost_ret (v := .agg (cS T)) ?_ rfl ⟨rfl, below_setRow (HB.out.2.1.trans (H2.out.mono (by have := HB.out.2.2.1; have := HG.out; omega))) (by have := HG.out; omega)⟩
 exact results_cell_row rfl _ _ g 30 _ (0, 0) _ rfl (setRow_heap _ _ _ _ _ _ ((H2.out.block g (by have := HB.out.2.2.1; omega)).trans HB.out.1)) hu27 rfl (by rw [cS_size]; kernel_rfl)
set_option maxHeartbeats 4000000 in
theorem Root4_calls (l : List Lf) (A : Option Addr) (c : Nat) (w : World) (hr : kL.C w A l.length l) (hc : l.length ≤ c) (hl : SmL l) :
  Calls Tryz.prog 11 #[.slice A l.length c] w fun e w' => e = .returned (.agg (cS (hashOf (itemsOf l) 0))) ∧ Below w.heap.size w w' := by
 have hu27 := Tryz.underlying30
 obtain ⟨g, hg⟩ : ∃ g, g = w.heap.size := ⟨_, rfl⟩
 obtain ⟨wb, hwb⟩ : ∃ wb, wb = w.alloc (.cells (cS zS) 30) := ⟨_, rfl⟩
 have h0 : wb.heap[g]? = some (.cells (cS zS) 30 (0, 0)) := by rw [hwb]; exact h_new hg
 have hb : Below w.heap.size w wb := by rw [hwb]; exact below_alloc (Below.refl _ _) _
 have hs : wb.heap.size = g + 1 := by rw [hwb, size_alloc, hg]
 have HB := Aside0.mk (⟨h0, hb, hs, Kd.C_below hr hb⟩ : _ ∧ _ ∧ _ ∧ _)
 have HWB := Aside0.mk ((zw w).symm.trans hwb.symm)
 clear h0 hb hs hwb hr
 have HG := Aside0.mk hg
 clear hg
 have HL := Aside0.mk hl
 clear hl
 obtain ⟨T, hT⟩ : ∃ T, T = hashOf (itemsOf l) 0 := ⟨_, rfl⟩
 have HT := Aside0.mk hT
 rw [← hT]
 clear hT
 go_enter Tryz.func11, Tryz.ntmps11
 go_wp2_with (first
  | (go_at_call 36; rw [HWB.out, ← HG.out]; (refine (Node_calls l 0 (by omega) A c wb HB.out.2.2.2 hc HL.out).mono ?_); rw [← HT.out]; rintro e w2 ⟨rfl, hb2⟩; have H2 := Aside0.mk hb2; clear hb2)
  | ((with_reducible refine gate_store (t := 30) rfl ?_); go_loud (refine wpList_store_row rfl 30 (.tmp 2) (.tmp 4) rfl g (cS T) rfl rfl 30 (cS zS) ((H2.out.block _ (by have := HB.out.2.2.1; omega)).trans HB.out.1) ?g3 ?g4 (encI_one _) ?_); (case g3 => rw [cS_size]; kernel_rfl); (case g4 => rw [cS_size, cS_size])))
 refine bodyPost_ret (v := .agg (cS T)) ?_ rfl ⟨rfl, below_setRow (HB.out.2.1.trans (H2.out.mono (by have := HB.out.2.2.1; have := HG.out; omega))) (by have := HG.out; omega)⟩
 exact results_cell_row rfl _ _ g 30 _ (0, 0) _ rfl (setRow_heap _ _ _ _ _ _ ((H2.out.block g (by have := HB.out.2.2.1; omega)).trans HB.out.1)) hu27 rfl (by rw [cS_size]; kernel_rfl)
set_option maxHeartbeats 4000000 in
theorem Rootm_calls (l : List Lf) (A : Option Addr) (c : Nat) (w : World) (hW : Words w) (hr : kL.C w A l.length l) (hc : l.length ≤ c) (hl : SmL l) :
  Calls Tryz.prog 10 #[.slice A l.length c] w fun e w' => e = .returned (.agg (cS (hashOf (itemsOf l) 0))) ∧ Below w.heap.size w w' := by
 have hu27 := Tryz.underlying30
 obtain ⟨g, hg⟩ : ∃ g, g = w.heap.size := ⟨_, rfl⟩
 obtain ⟨wb, hwb⟩ : ∃ wb, wb = w.alloc (.cells (cS zS) 30) := ⟨_, rfl⟩
 have h0 : wb.heap[g]? = some (.cells (cS zS) 30 (0, 0)) := by rw [hwb]; exact h_new hg
 have hb : Below w.heap.size w wb := by rw [hwb]; exact below_alloc (Below.refl _ _) _
 have hs : wb.heap.size = g + 1 := by rw [hwb, size_alloc, hg]
 have HB := Aside0.mk (⟨h0, hb, hs, Kd.C_below hr hb, hW.below hb⟩ : _ ∧ _ ∧ _ ∧ _ ∧ _)
 have HWB := Aside0.mk ((zw w).symm.trans hwb.symm)
 clear h0 hb hs hwb hr
 have HG := Aside0.mk hg
 clear hg
 have HL := Aside0.mk hl
 clear hl
 obtain ⟨T, hT⟩ : ∃ T, T = hashOf (itemsOf l) 0 := ⟨_, rfl⟩
 have HT := Aside0.mk hT
 rw [← hT]
 clear hT
 have HLn := Aside0.mk (itemsOf_len l)
 obtain ⟨L, hL⟩ : ∃ L, L = itemsOf l := ⟨_, rfl⟩
 rw [← hL] at HT HLn
 have HE := Aside0.mk hL
 clear hL
 go_enter Tryz.func10, Tryz.ntmps10
 go_wp2_with (first
  | (go_at_call 35; rw [HWB.out, ← HG.out]; (refine (itemsm_calls l A c wb HB.out.2.2.2.2 HB.out.2.2.2.1 hc HL.out.small).mono ?_); rw [← HE.out]; rintro e w1 ⟨v1, rfl, hv1, hb1⟩; obtain ⟨A1, c1, rfl, hc1, hr1⟩ := Kd.R_reads hv1; have H1 := Aside0.mk (⟨hr1, hb1, HB.out.2.2.2.2.below hb1⟩ : _ ∧ _ ∧ _); clear hr1 hb1 hv1)
  | (go_at_call 34; (refine (hashm_calls L 0 (by omega) A1 c1 w1 (by rw [HE.out]; exact HL.out.items) H1.out.2.2 H1.out.1 hc1).mono ?_); rw [← HT.out]; rintro e w2 ⟨rfl, hb2⟩; have H2 := Aside0.mk (below_tr H1.out.2.1 hb2 H1.out.2.1.size); clear hb2)
  | ((with_reducible refine gate_store (t := 30) rfl ?_); go_loud (refine wpList_store_row rfl 30 (.tmp 2) (.tmp 5) rfl g (cS T) rfl rfl 30 (cS zS) ((H2.out.block _ (by have := HB.out.2.2.1; omega)).trans HB.out.1) ?g3 ?g4 (encI_one _) ?_); (case g3 => rw [cS_size]; kernel_rfl); (case g4 => rw [cS_size, cS_size])))
 refine bodyPost_ret (v := .agg (cS T)) ?_ rfl ⟨rfl, below_setRow (HB.out.2.1.trans (H2.out.mono (by have := HB.out.2.2.1; have := HG.out; omega))) (by have := HG.out; omega)⟩
 exact results_cell_row rfl _ _ g 30 _ (0, 0) _ rfl (setRow_heap _ _ _ _ _ _ ((H2.out.block g (by have := HB.out.2.2.1; omega)).trans HB.out.1)) hu27 rfl (by rw [cS_size]; kernel_rfl)
def halfL (l : List Lf) (d : Nat) (b : Int) : List Lf := (halfOf (itemsOf l) d b).map (·.x)
end Go.Proofs.YtanabbjakacgbaaGreatDoor.Sp
namespace Go.Proofs.YtanabbjakacgbaaGreatDoor.Sp
open Go.RowKit Go.Proofs.YtanabbjakacgbaaGreatDoorW.PrintWords Go.Proofs.YtanabbjakacgbaaGreatDoorW.PrintLast Go.Proofs.YtanabbjakacgbaaGreatDoorW.PrintMore Go.Proofs.YtanabbjakacgbaaGreatDoor.PM
set_option linter.unusedVariables false
set_option linter.unusedSimpArgs false
set_option maxRecDepth 100000
structure Pf where
 p : List Sm
 e : Int
 l : Lf
deriving DecidableEq
def cP (v : Value) (e : Int) (l : Lf) : Array Value := #[v, .int .i64 e] ++ cL l
theorem cP_size (v : Value) (e : Int) (l : Lf) : (cP v e l).size = 35 := by rw [cP, Array.size_append, cL_size]; rfl
theorem cP_one {v : Value} (hv : v.oneCell' = true) (e : Int) (l : Lf) : ∀ u ∈ (cP v e l).toList, u.oneCell' = true := by
 intro u hu
 rw [cP, Array.toList_append] at hu
 rcases List.mem_append.1 hu with hu | hu
 ·simp at hu
  rcases hu with rfl | rfl
  ·exact hv
  ·rfl
 ·exact cL_one _ u hu
theorem infoP : (Tryz.prog.info? 34).map (fun i => (i.zero, i.size, i.bytes)) = some (some (.agg (cP (.slice none 0 0) 0 zL)), 35, 80) := by kernel_rfl
theorem zPw (w : World) : w.alloc (.cells (cP (.slice none 0 0) 0 zL) 34) = w.alloc (.cells #[.slice none 0 0, .int .i64 0, .string ByteArray.empty, .int .u8 0, .int .u8 0, .int .u8 0, .int .u8 0, .int .u8 0, .int .u8 0, .int .u8 0, .int .u8 0, .int .u8 0, .int .u8 0, .int .u8 0, .int .u8 0, .int .u8 0, .int .u8 0, .int .u8 0, .int .u8 0, .int .u8 0, .int .u8 0, .int .u8 0, .int .u8 0, .int .u8 0, .int .u8 0, .int .u8 0, .int .u8 0, .int .u8 0, .int .u8 0, .int .u8 0, .int .u8 0, .int .u8 0, .int .u8 0, .int .u8 0, .int .u8 0] 34) := by rfl
section
variable {w : World} {g : Nat} {v u : Value} {e : Int} {l : Lf} {t : Nat}
theorem cell_P0 {fr : Nat × Nat} (hg : w.heap[g]? = some (.cells (cP v e l) t fr)) : w.cell? ⟨g, 0, none⟩ = some v := (cell_of_row w g 0 _ t fr hg).trans (by rw [cP, Array.getElem?_append_left (by simp)]; rfl)
theorem cell_P1 {fr : Nat × Nat} (hg : w.heap[g]? = some (.cells (cP v e l) t fr)) : w.cell? ⟨g, 1, none⟩ = some (.int .i64 e) := (cell_of_row w g 1 _ t fr hg).trans (by rw [cP, Array.getElem?_append_left (by simp)]; rfl)
theorem cell_P2 {fr : Nat × Nat} (hg : w.heap[g]? = some (.cells (cP v e l) t fr)) : w.cell? ⟨g, 2, none⟩ = some (.string l.k) := (cell_of_row w g 2 _ t fr hg).trans (by
 rw [cP, Array.getElem?_append_right (by simp), cL, Array.getElem?_append_left (by simp)]
 rfl)
theorem cells_P2 {fr : Nat × Nat} (hg : w.heap[g]? = some (.cells (cP v e l) t fr)) : ∀ j u, (cL l).toList[j]? = some u → w.cell? ((⟨g, 2, none⟩ : Addr).add j) = some u := by
 intro j u hj
 have h := row_cells hg (2 + j) u (by rw [cP, Array.toList_append, List.getElem?_append_right (by simp)]; simpa using hj)
 rw [Addr.add_lit] at h ⊢
 simpa using h
theorem set_P0 (hg : w.heap[g]? = some (.cells (cP v e l) t (0, 0))) : (w.setCell ⟨g, 0, none⟩ u).heap[g]? = some (.cells (cP u e l) t (0, 0)) := by
 rw [heap_setCell_same w g 0 _ t _ hg, cP, cP, Array.setIfInBounds_append_left (by simp)]
 rfl
theorem set_P1 (e' : Int) (hg : w.heap[g]? = some (.cells (cP v e l) t (0, 0))) : (w.setCell ⟨g, 1, none⟩ (.int .i64 e')).heap[g]? = some (.cells (cP v e' l) t (0, 0)) := by
 rw [heap_setCell_same w g 1 _ t _ hg, cP, cP, Array.setIfInBounds_append_left (by simp)]
 rfl
theorem froz_P (j : Nat) (hg : w.heap[g]? = some (.cells (cP v e l) t (0, 0))) : w.frozen? ⟨g, j, none⟩ = false := frozen_of_row w g j _ t hg
theorem ld_P (hg : w.heap[g]? = some (.cells (cP v e l) t (0, 0))) (m : Nat) : (loadVar 34 ⟨g, 0, none⟩).run Tryz.prog (w.drewN m) = .ok (.agg (cP v e l)) (w.drewN m) :=
 load_row hg 34 Tryz.underlying34 rfl (by rw [cP_size]; kernel_rfl) m
end
def wayF : Nat → List It → Sm → Nat → List Sm × List It
 | 0, l, s, d => ([], l)
 | k + 1, l, s, d => if endsOf l d = true then ([], l) else (hashOf (halfOf l d (1 - bitI s d)) (d + 1) :: (wayF k (halfOf l d (bitI s d)) s (d + 1)).1, (wayF k (halfOf l d (bitI s d)) s (d + 1)).2)
def wayOf (l : List It) (s : Sm) : List Sm × List It := wayF 256 l s 0
theorem wayF_end {l : List It} {d : Nat} (s : Sm) (h : endsOf l d = true) (k : Nat) : wayF k l s d = ([], l) := by
 cases k with
 | zero => rfl
 | succ k => rw [wayF, if_pos h]
theorem wayF_go {l : List It} {d : Nat} (s : Sm) (h : endsOf l d = false) : wayF (256 - d) l s d = (hashOf (halfOf l d (1 - bitI s d)) (d + 1) :: (wayF (256 - (d + 1)) (halfOf l d (bitI s d)) s (d + 1)).1, (wayF (256 - (d + 1)) (halfOf l d (bitI s d)) s (d + 1)).2) := by
 have hd := (ends_lt h).1
 rw [show 256 - d = (256 - (d + 1)) + 1 by omega, wayF, if_neg (by rw [h]; simp)]
def proveOf (l : List Lf) (k : ByteArray) : Pf :=
 if (wayOf (itemsOf l) (hk k)).2.length = 0 then ⟨(wayOf (itemsOf l) (hk k)).1, 0, zL⟩
 else ⟨(wayOf (itemsOf l) (hk k)).1, if ((wayOf (itemsOf l) (hk k)).2.getD 0 zI).x.k = k then 1 else 2, ((wayOf (itemsOf l) (hk k)).2.getD 0 zI).x⟩
end Go.Proofs.YtanabbjakacgbaaGreatDoor.Sp
namespace Go.Proofs.YtanabbjakacgbaaGreatDoor.Sp
open Go.RowKit Go.Proofs.YtanabbjakacgbaaGreatDoorW.PrintWords Go.Proofs.YtanabbjakacgbaaGreatDoorW.PrintLast Go.Proofs.YtanabbjakacgbaaGreatDoorW.PrintMore Go.Proofs.YtanabbjakacgbaaGreatDoor.PM
set_option linter.unusedVariables false
set_option linter.unusedSimpArgs false
set_option maxRecDepth 100000
section
variable {P : Program} {ops : Array Oper} {Q : Exit → Act → World → Prop} {oi : Oper} {a : Act} {w : World} {K : Act → World → Prop}
theorem st_any (hw : Region.wanted oi (yielded ops a.tmps) = true) (hN : oi.dst = none) {ty : TypeId} {x y : Operand} (ho : oi.op = .store ty x y) {ad : Addr} {v : Value} (hx : a.eval x = .pointer (some ad)) (hy : a.eval y = v) {w1 : World}
  (hrun : (storeVar ty ad v).run P w = .ok () w1) (h : K a w1) : if Region.wanted oi (yielded ops a.tmps) = true then Oper.wp P oi a w K Q else K (a.put none undef) w := by
 refine skip_ hw hN ?_ h
 unfold execOp
 simp only [ho, hx, hy, Instr.storeAt, Instr.sureAddr, Sem.run_bind, Sem.run_pure, Result.andThen_ok, hrun]
theorem run_storeVar_cell {ty : TypeId} {ad : Addr} {v old : Value} (hs : ad.spot = none) (hv : v.cells = #[v]) (h1 : v.oneCell' = true) (hi : (P.info? ty).map (·.size) = some 1) (hc : w.cell? ad = some old) (hf : w.frozen? ad = false) :
  (storeVar ty ad v).run P w = .ok () (w.setCell ad v) := by
 cases hq : P.info? ty with
 | none => simp [hq] at hi
 | some i =>
  have hs : i.size = 1 := by simpa [hq] using hi
  have hst := run_store P w ad v .plain h1
  rw [hc] at hst
  simp only [hf] at hst
  simp [storeVar, sizeOf, typeInfo, hq, hv, hs, storeCells, Addr.add_zero', Sem.run_bind, hst]
theorem st_cell (hw : Region.wanted oi (yielded ops a.tmps) = true) (hN : oi.dst = none) (ty : TypeId) (x y : Operand) (ho : oi.op = .store ty x y) (ad : Addr) (v old : Value) (hx : a.eval x = .pointer (some ad)) (hy : a.eval y = v) (hs : ad.spot = none) (hv : v.cells = #[v]) (h1 : v.oneCell' = true) (hi : (P.info? ty).map (·.size) = some 1) (hc : w.cell? ad = some old) (hf : w.frozen? ad = false)
  (h : K a (w.setCell ad v)) : if Region.wanted oi (yielded ops a.tmps) = true then Oper.wp P oi a w K Q else K (a.put none undef) w :=
 st_any hw hN ho hx hy (run_storeVar_cell hs hv h1 hi hc hf) h
theorem st_row (hw : Region.wanted oi (yielded ops a.tmps) = true) (hN : oi.dst = none) (ty : TypeId) (x y : Operand) (ho : oi.op = .store ty x y) (g : Nat) (cells : Array Value) (hx : a.eval x = .pointer (some ⟨g, 0, none⟩)) (hy : a.eval y = .agg cells)
  (t : TypeId) (old : Array Value) (hg : w.heap[g]? = some (.cells old t (0, 0))) (hi : (P.info? ty).map (·.size) = some cells.size) (hold : old.size = cells.size) (h1 : cells.all (·.oneCell') = true)
  (h : K a (w.setRow g cells)) : if Region.wanted oi (yielded ops a.tmps) = true then Oper.wp P oi a w K Q else K (a.put none undef) w :=
 st_any hw hN ho hx hy (run_storeVar_row w g t ty old cells hg hi hold h1) h
theorem st_mid (hw : Region.wanted oi (yielded ops a.tmps) = true) (hN : oi.dst = none) (ty : TypeId) (x y : Operand) (ho : oi.op = .store ty x y) (b o : Nat) (cells : Array Value) (hx : a.eval x = .pointer (some ⟨b, o, none⟩)) (hy : a.eval y = .agg cells)
  (ht : w.there b o cells.size) (hi : (P.info? ty).map (·.size) = some cells.size) (h1 : cells.all (·.oneCell') = true)
  (h : K a (w.setCells b o cells.toList)) : if Region.wanted oi (yielded ops a.tmps) = true then Oper.wp P oi a w K Q else K (a.put none undef) w :=
 st_any hw hN ho hx hy (run_storeVar_mid w b o ty cells ht hi h1) h
end
theorem heap_setCells {g t : Nat} : ∀ (vs : List Value) (o : Nat) (w : World) (cs : Array Value), w.heap[g]? = some (.cells cs t (0, 0)) → o + vs.length ≤ cs.size →
  ∃ cs' : Array Value, (w.setCells g o vs).heap[g]? = some (.cells cs' t (0, 0)) ∧ cs'.size = cs.size ∧ ∀ j, cs'[j]? = if o ≤ j ∧ j < o + vs.length then vs[j - o]? else cs[j]?
 | [], o, w, cs, h, _ => ⟨cs, h, rfl, fun j => by rw [if_neg (fun h => by simp at h; omega)]⟩
 | v :: r, o, w, cs, h, hl => by
  simp only [List.length_cons] at hl
  obtain ⟨cs', h1, h2, h3⟩ := heap_setCells r (o + 1) (w.setCell ⟨g, o, none⟩ v) _ (heap_setCell_same w g o cs t v h) (by simp; omega)
  refine ⟨cs', h1, by rw [h2]; simp, fun j => ?_⟩
  rw [h3 j]
  simp only [List.length_cons]
  by_cases hj : j = o
  ·subst hj
   rw [if_neg (by omega), if_pos (by omega), Nat.sub_self, Array.getElem?_setIfInBounds_self_of_lt (by omega)]
   rfl
  ·rw [Array.getElem?_setIfInBounds_ne (by omega)]
   by_cases hc : o + 1 ≤ j ∧ j < o + 1 + r.length
   ·rw [if_pos hc, if_pos (by omega), show j - o = (j - (o + 1)) + 1 by omega]
    rfl
   ·rw [if_neg hc, if_neg (by omega)]
theorem set_P2 {w : World} {g t : Nat} {v : Value} {e : Int} {l l' : Lf} (h : w.heap[g]? = some (.cells (cP v e l) t (0, 0))) : (w.setCells g 2 (cL l').toList).heap[g]? = some (.cells (cP v e l') t (0, 0)) := by
 obtain ⟨cs', h1, h2, h3⟩ := heap_setCells (cL l').toList 2 w _ h (by rw [Array.length_toList, cL_size, cP_size]; omega)
 rw [h1]
 have e2 : cs' = cP v e l' := by
  apply Array.ext_getElem?
  intro j
  rw [h3 j, Array.length_toList, cL_size]
  by_cases hj : j < 2
  ·rw [if_neg (by omega), cP, cP, Array.getElem?_append_left (by simp; omega), Array.getElem?_append_left (by simp; omega)]
  ·by_cases hk : j < 35
   ·rw [if_pos (by omega), cP, Array.getElem?_append_right (by simp; omega), Array.getElem?_toList]
    rfl
   ·rw [if_neg (by omega), Array.getElem?_eq_none (by rw [cP_size]; omega), Array.getElem?_eq_none (by rw [cP_size]; omega)]
 rw [e2]
theorem there_P2 {w : World} {g t : Nat} {v : Value} {e : Int} {l : Lf} (h : w.heap[g]? = some (.cells (cP v e l) t (0, 0))) : w.there g 2 33 := fun j hj => by
 refine ⟨?_, frozen_of_row w g _ _ t h⟩
 rw [cell_of_row w g _ _ t _ h, Array.getElem?_eq_getElem (by rw [cP_size]; omega)]
 rfl
theorem below_setCells {b g : Nat} : ∀ (vs : List Value) (o : Nat) {w0 w : World}, Below b w0 w → b ≤ g → Below b w0 (w.setCells g o vs)
 | [], _, _, _, h, _ => h
 | v :: r, o, w0, w, h, hg => below_setCells r (o + 1) (h.setCell (p := ⟨g, o, none⟩) hg v) hg
theorem heap_setCells_ne {g k : Nat} (hk : k ≠ g) : ∀ (vs : List Value) (o : Nat) (w : World), (w.setCells g o vs).heap[k]? = w.heap[k]?
 | [], _, _ => rfl
 | v :: r, o, w => by rw [World.setCells, heap_setCells_ne hk r]; exact Below.heap_setCell w ⟨g, o, none⟩ v k hk
theorem heap_setCell_ne {w : World} {g o k : Nat} {v : Value} (hk : k ≠ g) : (w.setCell ⟨g, o, none⟩ v).heap[k]? = w.heap[k]? := Below.heap_setCell w ⟨g, o, none⟩ v k hk
end Go.Proofs.YtanabbjakacgbaaGreatDoor.Sp

