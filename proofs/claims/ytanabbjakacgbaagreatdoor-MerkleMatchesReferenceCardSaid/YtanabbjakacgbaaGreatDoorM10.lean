/- Put together by this session's program out of: Si. -/
import Derived.Test.YtanabbjakacgbaaGreatDoorM9
namespace Go.Proofs.YtanabbjakacgbaaGreatDoor.Sp
open Go.RowKit Go.Proofs.YtanabbjakacgbaaGreatDoorW.PrintWords Go.Proofs.YtanabbjakacgbaaGreatDoorW.PrintLast Go.Proofs.YtanabbjakacgbaaGreatDoorW.PrintMore Go.Proofs.YtanabbjakacgbaaGreatDoor.PM
set_option linter.unusedVariables false
set_option linter.unusedSimpArgs false
set_option maxRecDepth 100000
theorem lit_L1 (W : World) (x : Lf) : kL.R 32 (W.alloc (.cells (cL x) 32)) W.heap.size (fun _ => True) (.slice (some ⟨W.heap.size, 0, none⟩) 1 1) [x] := by
 refine ⟨fun _ _ => trivial, (cL x).toList, ?_, ?_⟩
 ·exact World.ownsRow_lit (base := W.heap.size) (e := 32) (size := kL.sz) W (cL x) 1 (Nat.le_refl _) (by decide) (by rw [cL_size]; rfl)
 ·refine ⟨by rw [Array.length_toList, cL_size]; rfl, fun j p hj => ?_⟩
  show List.take 33 (List.drop (j * 33) (cL x).toList) = (cL p).toList
  have hx : (cL x).toList.length = 33 := by rw [Array.length_toList, cL_size]
  match j, hj with
  | 0, hj =>
   obtain rfl : x = p := by simpa using hj
   rw [Nat.zero_mul, List.drop_zero, List.take_of_length_le (by omega)]
  | j + 1, hj => simp at hj
theorem lit_L2 (W : World) (x y : Lf) : kL.R 32 (W.alloc (.cells (cL x ++ cL y) 32)) W.heap.size (fun _ => True) (.slice (some ⟨W.heap.size, 0, none⟩) 2 2) [x, y] := by
 refine ⟨fun _ _ => trivial, (cL x ++ cL y).toList, ?_, ?_⟩
 ·exact World.ownsRow_lit (base := W.heap.size) (e := 32) (size := kL.sz) W (cL x ++ cL y) 2 (Nat.le_refl _) (by decide) (by rw [Array.size_append, cL_size, cL_size]; rfl)
 ·refine ⟨by rw [Array.length_toList, Array.size_append, cL_size, cL_size]; rfl, fun j p hj => ?_⟩
  show List.take 33 (List.drop (j * 33) (cL x ++ cL y).toList) = (cL p).toList
  rw [Array.toList_append]
  have hx : (cL x).toList.length = 33 := by rw [Array.length_toList, cL_size]
  have hy : (cL y).toList.length = 33 := by rw [Array.length_toList, cL_size]
  match j, hj with
  | 0, hj =>
   obtain rfl : x = p := by simpa using hj
   rw [Nat.zero_mul, List.drop_zero, List.take_append_of_le_length (by omega), List.take_of_length_le (by omega)]
  | 1, hj =>
   obtain rfl : y = p := by simpa using hj
   rw [Nat.one_mul, List.drop_append_of_le_length (by omega), List.drop_of_length_le (by omega), List.nil_append, List.take_of_length_le (by omega)]
  | j + 2, hj => simp at hj
theorem lit_Str (W : World) (p : ByteArray) : Kd.string.R 9 (W.alloc (.cells #[.string p] 9)) W.heap.size (fun _ => True) (.slice (some ⟨W.heap.size, 0, none⟩) 1 1) [p] := by
 refine ⟨fun _ _ => trivial, [.string p], ?_, ?_⟩
 ·exact World.ownsRow_lit (base := W.heap.size) (e := 9) (size := 1) W #[.string p] 1 (Nat.le_refl _) (by decide) rfl
 ·exact Reps.one (show Kd.M Kd.string _ _ _ p [.string p] from rfl) (Reps.none _ _)
theorem cS_sB (b : Int) (h : 0 ≤ b ∧ b < 256) : cS (sB b) = #[] ++ #[.int .u8 b] ++ (encI (List.replicate 31 0)) := by
 rw [sB, dif_pos h, Array.empty_append]; simp [cS, encI]
theorem built_S1 (b : Int) (h : 0 ≤ b ∧ b < 256) : Tryz.prog.built 30 [(0, .int .u8 b)] = some (cS (sB b)) := by
 rw [cS_sB b h]
 show Instr.fill (fun i => some (i * 1, 1)) (cS zS) [(0, .int .u8 b)] = _
 have e : cS zS = #[] ++ #[.int .u8 0] ++ (encI (List.replicate 31 0)) := by rw [Array.empty_append]; rfl
 rw [e]
 exact fill_mid (fun i => some (i * 1, 1)) 0 (.int .u8 b) [] #[] #[.int .u8 0] _ rfl rfl
section
variable {ops : Array Oper} {rest : List Oper} {o : Oper} {a : Act} {Q : Exit → Act → World → Prop} {w : World}
theorem bld_S1 (hg : o.guard = none) (x : Operand) (ho : o.op = .build 30 #[(0, x)]) (b : Int) (hb : 0 ≤ b ∧ b < 256) (hx : a.eval x = .int .u8 b) (h : wpList Tryz.prog ops Q rest (a.put o.dst (.agg (cS (sB b)))) w) : wpList Tryz.prog ops Q (o :: rest) a w := by
 refine wpList_built hg 30 _ ho (cS (sB b)) ?_ h
 have e : (Array.map (fun x : Nat × Operand => (x.1, a.eval x.2)) #[(0, x)]).toList = [(0, .int .u8 b)] := by simp [hx]
 rw [e]
 exact built_S1 b hb
end
theorem convert_lit (P : Program) (w : World) (t g n c : Nat) (hu : P.underlying t = some (.slice 5)) (hu5 : P.underlying 5 = some (.int .u8)) {cs : Array Value} (hg : w.heap[g]? = some (.cells cs 5 (0, 0))) :
  ∃ W, (convert t t (.slice (some ⟨g, 0, none⟩) n c)).run P w = .ok (.slice (some ⟨g, 0, none⟩) n c) W ∧ Below g w W ∧ W.heap.size = w.heap.size ∧ (∀ k, k ≠ g → W.heap[k]? = w.heap[k]?) ∧ ∀ i, W.cell? ⟨g, i, none⟩ = w.cell? ⟨g, i, none⟩ := by
 refine ⟨w.freeze ⟨g, cs.size, none⟩ 1, ?_, ?_, ?_, ?_, ?_⟩
 ·simp [convert, run_underlying hu, run_underlying hu5, markStringish, World.shape?, hg, Sem.run_bind]
 ·refine ⟨rfl, rfl, rfl, by simp [World.freeze], fun k hk => ?_⟩
  simp only [World.freeze, Nat.one_ne_zero, if_false, Array.getElem?_modify]
  rw [if_neg (by omega)]
 ·simp [World.freeze]
 ·intro k hk
  simp only [World.freeze, Nat.one_ne_zero, if_false, Array.getElem?_modify]
  rw [if_neg (fun e => hk e.symm)]
 ·intro i
  simp [World.cell?, World.freeze, Array.getElem?_modify, hg]
theorem wpList_convert {P : Program} {w : World} {ops : Array Oper} {rest : List Oper} {o : Oper} {a : Act} {Q : Exit → Act → World → Prop} (hgd : o.guard = none) (s d : TypeId) (x : Operand) (ho : o.op = .convert s d x) (v v' : Value) (hx : a.eval x = v) (W : World)
  (hrun : (convert s d v).run P w = .ok v' W) (h : wpList P ops Q rest (a.put o.dst v') W) : wpList P ops Q (o :: rest) a w := by
 refine wpList_plain hgd fun K hK => ?_
 unfold Oper.wp
 simp [execOp, ho, hx, hrun, Result.andThen, Sem.run_bind, Sem.run_map]
 exact hK _ _ h
theorem wpList_allocz {P : Program} {w : World} {ops : Array Oper} {rest : List Oper} {o : Oper} {a : Act} {Q : Exit → Act → World → Prop} (hg : o.guard = none) (t : TypeId) (Z : Array Value) (ho : o.op = .alloc t) (hz : ∀ w, (zeroValue t).run P w = .ok (.agg Z) w)
  (h : wpList P ops Q rest (a.put o.dst (.pointer (some ⟨w.heap.size, 0, none⟩))) (w.alloc (.cells Z t))) : wpList P ops Q (o :: rest) a w :=
 wpList_plain hg fun K hK => Grow.gr_alloc t (.agg Z) ho hz (hK _ _ h)
theorem zero36 : ∀ w, (zeroValue 34).run Tryz.prog w = .ok (.agg (cP (.slice none 0 0) 0 zL)) w := by
 intro w
 cases hq : Tryz.prog.info? 34 with
 | none => have := infoP; simp [hq] at this
 | some i =>
  have h := infoP
  rw [hq] at h
  simp only [Option.map_some, Option.some.injEq, Prod.mk.injEq] at h
  simp [zeroValue, typeInfo, hq, h.1]
theorem byte_C {W : World} {g : Nat} {b : Int} (h : W.cell? ⟨g, 0, none⟩ = some (.int .u8 b)) : (Kd.int .u8).C W (some ⟨g, 0, none⟩) [b].length [b] := by
 refine Kd.C_of_reads (enc := Value.int .u8) (d := (0 : Int)) ⟨rfl, by simp, fun _ => ⟨⟨g, 0, none⟩, rfl, fun j hj => ?_⟩⟩
 obtain rfl : j = 0 := by simpa using hj
 exact h
structure SanSt (w0 : World) (g n1 : Nat) (x : Lf) (r : Sm) (w : World) : Prop where
 below : Below w0.heap.size w0 w
 words : Words w
 row : kL.R 32 w 0 (fun _ => True) (.slice (some ⟨g + 1, 0, none⟩) 1 1) [x]
 bx : w.heap[g]? = some (.cells (cL x) 32 (0, 0))
 br : w.heap[n1]? = some (.cells (cS r) 30 (0, 0))
theorem at_next {w w' : World} {n : Nat} {o : Obj} (h : w.heap[n]? = some o) (hb : Below w.heap.size w w') : w'.heap[n]? = some o := (hb.block n (Array.getElem?_eq_some_iff.1 h).1).trans h
theorem SanSt.next {w0 w w' : World} {g n1 : Nat} {x : Lf} {r : Sm} (h : SanSt w0 g n1 x r w) (hb : Below w.heap.size w w') : SanSt w0 g n1 x r w' :=
 ⟨h.below.trans (hb.mono h.below.size), h.words.below hb, Kd.R_below h.row hb, at_next h.bx hb, at_next h.br hb⟩
theorem SanSt.list {w0 w : World} {g n1 : Nat} {x : Lf} {r : Sm} (h : SanSt w0 g n1 x r w) : kL.C w (some ⟨g + 1, 0, none⟩) 1 [x] := (R_C h.row).2.2
theorem two_boxes {w wx wy : World} {n t : Nat} (hn : n = w.heap.size) {Z1 Z2 C D : Array Value} (hwx : (w.alloc (.cells Z1 t)).alloc (.cells Z2 t) = wx) (hwy : (wx.setRow n C).setRow (n + 1) D = wy) :
  wx.heap[n]? = some (.cells Z1 t (0, 0)) ∧ (wx.setRow n C).heap[n + 1]? = some (.cells Z2 t (0, 0)) ∧ wy.heap[n]? = some (.cells C t (0, 0)) ∧ wy.heap[n + 1]? = some (.cells D t (0, 0)) ∧ Below w.heap.size w wy := by
 have h0 : wx.heap[n]? = some (.cells Z1 t (0, 0)) := by rw [← hwx, h_old (by simp only [size_alloc]; omega)]; exact h_new hn
 have h1 : wx.heap[n + 1]? = some (.cells Z2 t (0, 0)) := by rw [← hwx]; exact h_new (by rw [size_alloc, hn])
 have h2 := (setRow_other wx n (n + 1) C (by omega)).trans h1
 rw [← hwy]
 refine ⟨h0, h2, (setRow_other _ _ _ _ (by omega)).trans (setRow_heap _ _ _ _ _ _ h0), setRow_heap _ _ _ _ _ _ h2, ?_⟩
 rw [← hwx]
 exact below_setRow (below_setRow (below_alloc (below_alloc (Below.refl _ _) _) _) (by omega)) (by omega)
theorem zero56 : ∀ w, (zeroValue 38).run Tryz.prog w = .ok (.agg (cF (.slice none 0 0) 0 false)) w := by
 intro w
 have h : (Tryz.prog.info? 38).map (fun i => (i.zero, i.size)) = some (some (.agg (cF (.slice none 0 0) 0 false)), 3) := by kernel_rfl
 cases hq : Tryz.prog.info? 38 with
 | none => simp [hq] at h
 | some i =>
  rw [hq] at h
  simp only [Option.map_some, Option.some.injEq, Prod.mk.injEq] at h
  simp [zeroValue, typeInfo, hq, h.1]
structure SanB (w0 : World) (g n1 : Nat) (x : Lf) (r : Sm) (n3 : Nat) (C2 C3 : Array Value) (A2 A3 : Option Addr) (n5 : Nat) (D4 D5 : Array Value) (A4 : Option Addr) (c4 : Nat) (w : World) : Prop where
 st : SanSt w0 g n1 x r w
 b2 : w.heap[n3]? = some (.cells C2 34 (0, 0))
 b3 : w.heap[n3 + 1]? = some (.cells C3 34 (0, 0))
 k2 : kS.C w A2 0 []
 k3 : kS.C w A3 0 []
 b4 : w.heap[n5]? = some (.cells D4 38 (0, 0))
 b5 : w.heap[n5 + 1]? = some (.cells D5 38 (0, 0))
 r4 : Kd.string.R 9 w 0 (fun _ => True) (.slice A4 1 c4) [x.k]
section
variable {w0 w w' : World} {g n1 n3 n5 : Nat} {x : Lf} {r : Sm} {C2 C3 D4 D5 : Array Value} {A2 A3 A4 : Option Addr} {c4 : Nat}
theorem SanB.next (h : SanB w0 g n1 x r n3 C2 C3 A2 A3 n5 D4 D5 A4 c4 w) (hb : Below w.heap.size w w') : SanB w0 g n1 x r n3 C2 C3 A2 A3 n5 D4 D5 A4 c4 w' :=
 ⟨h.st.next hb, at_next h.b2 hb, at_next h.b3 hb, Kd.C_below h.k2 hb, Kd.C_below h.k3 hb, at_next h.b4 hb, at_next h.b5 hb, Kd.R_below h.r4 hb⟩
theorem ld_Pq {A : Option Addr} {c : Nat} {e : Int} {l : Lf} {C : Array Value} {n : Nat} (hC : C = cP (.slice A 0 c) e l) (hg : w.heap[n]? = some (.cells C 34 (0, 0))) : (loadVar 34 ⟨n, 0, none⟩).run Tryz.prog w = .ok (.agg C) w := by
 rw [hC] at hg ⊢; exact ld_P hg 0
end
theorem built_K2 : Tryz.prog.built 45 [(2, .bool true)] = some (cK ⟨zS, false, true⟩) := by kernel_rfl
section
variable {ops : Array Oper} {rest : List Oper} {o : Oper} {a : Act} {Q : Exit → Act → World → Prop} {w : World}
theorem bld_P2 (hg : o.guard = none) (x : Operand) (ho : o.op = .build 34 #[(1, .const (.int .i64 2)), (2, x)]) (p : Lf) (D : Array Value) (hD : D = cP (.slice none 0 0) 2 p) (hx : a.eval x = .agg (cL p)) (h : wpList Tryz.prog ops Q rest (a.put o.dst (.agg D)) w) : wpList Tryz.prog ops Q (o :: rest) a w := by
 refine wpList_built hg 34 _ ho D ?_ h
 have e : (Array.map (fun x : Nat × Operand => (x.1, a.eval x.2)) #[(1, .const (.int .i64 2)), (2, x)]).toList = [(1, .int .i64 2), (2, .agg (cL p))] := by
  have hc : a.eval (.const (.int .i64 2)) = .int .i64 2 := rfl
  simp [hx, hc]
 rw [e, hD]
 exact built_P2 p
theorem bld_K2 (hg : o.guard = none) (ho : o.op = .build 45 #[(2, .const (.bool true))]) (q : Ck) (hq : q = ⟨zS, false, true⟩) (h : wpList Tryz.prog ops Q rest (a.put o.dst (.agg (cK q))) w) : wpList Tryz.prog ops Q (o :: rest) a w := by
 refine wpList_built hg 45 _ ho (cK q) ?_ h
 have e : (Array.map (fun x : Nat × Operand => (x.1, a.eval x.2)) #[(2, .const (.bool true))]).toList = [(2, .bool true)] := by
  have hc : a.eval (.const (.bool true)) = .bool true := rfl
  simp [hc]
 rw [e, hq]
 exact built_K2
end
def directB (md : Region.Mode) (ops : Array Oper) (i d : Nat) : Bool := match ops[d]? with
 | some o => o.after.any fun e => Region.binds md e && e.on == i
 | none => false
theorem reach_direct {md : Region.Mode} {ops : Array Oper} {i d : Nat} (n : Nat) (h : directB md ops i d = true) : Region.reachB md ops i (n + 1) d = true := by
 unfold directB at h
 unfold Region.reachB
 cases hd : ops[d]? with
 | none => simp [hd] at h
 | some o =>
  simp only [hd] at h ⊢
  obtain ⟨k, hk, hp⟩ := Array.any_eq_true.1 h
  refine Array.any_eq_true.2 ⟨k, hk, ?_⟩
  simp only [Bool.and_eq_true, Bool.or_eq_true] at hp ⊢
  exact ⟨hp.1, .inl hp.2⟩
def takeD (md : Region.Mode) (ops : Array Oper) (ds : List Nat) (l l' : Array Bool) (i : Nat) : Bool :=
 Region.noSelect ops && Region.free md ops l i && (Region.ready md ops l).contains i && Region.closedB md ops l && (ds.all fun d => l.getD d true || directB md ops i d) && (l.setIfInBounds i true == l')
theorem takeD_take {md : Region.Mode} {ops : Array Oper} {ds : List Nat} {l l' : Array Bool} {i : Nat} {oi : Oper} (hi : ops[i]? = some oi) (h : takeD md ops ds l l' i = true) : takeB md ops ds l l' i = true := by
 have hn : i < ops.size := (Array.getElem?_eq_some_iff.1 hi).1
 simp only [takeD, takeB, Bool.and_eq_true] at h ⊢
 obtain ⟨⟨⟨⟨⟨h1, h2⟩, h3⟩, h4⟩, h5⟩, h6⟩ := h
 refine ⟨⟨⟨⟨⟨h1, h2⟩, h3⟩, h4⟩, ?_⟩, h6⟩
 unfold Region.lastB
 refine List.all_eq_true.2 fun d hd => ?_
 have h7 := List.all_eq_true.1 h5 d hd
 simp only [Bool.or_eq_true] at h7 ⊢
 rcases h7 with h7 | h7
 ·exact .inl h7
 ·right
  obtain ⟨m, hm⟩ : ∃ m, ops.size = m + 1 := ⟨ops.size - 1, by omega⟩
  rw [hm]
  exact reach_direct m h7
theorem takeD_ {P : Program} {ops : Array Oper} {Q : Exit → Act → World → Prop} {md : Region.Mode} {S : World → Prop} {ds : List Nat} {i : Nat} {N : Option Tmp} {oi : Oper} {v : Value} {fuel : Nat} {l : Array Bool} {a : Act} {w : World} (l' : Array Bool) (hi : ops[i]? = some oi) (hN : oi.dst = N) (hc : takeD md ops ds l l' i = true)
  (hQ : ∀ c a w, Q (.panic c) (a.put oi.dst v) w → Q (.panic c) a w) (hy : YieldsIf P ops S oi v a) (hS : S w) {a' : Act} (ha : a.put N v = a')
  (h : wpAnyLast P md ops Q S ds fuel l' a' w) : wpAnyLast P md ops Q S ds (fuel + 1) l a w :=
 take_ l' hi hN (takeD_take hi hc) hQ hy hS ha h
theorem yield_built {P : Program} {o : Oper} {a : Act} {w : World} (t : TypeId) (parts : Array (Nat × Operand)) (ho : o.op = .build t parts) (cells : Array Value) (vs : List (Nat × Value)) (hv : (parts.map fun (i, x) => (i, a.eval x)).toList = vs) (hf : P.built t vs = some cells) : Yield P o a w (.agg cells) := by
 unfold Yield execOp
 simp only [ho, Sem.run_bind, run_build w t _ cells (by rw [hv]; exact hf), Result.andThen_ok]
 rfl
theorem eqS_r (w : World) (x : Sm) : (Op.equal 30 (.agg (cS x)) (.agg (cS x))).run Tryz.prog w = .ok true w := by rw [eqS]; simp
theorem eqK_r (w : World) (x : Ck) : (Op.equal 45 (.agg (cK x)) (.agg (cK x))).run Tryz.prog w = .ok true w := by rw [eqK]; simp
theorem bs1Str_run {o : Oper} {a : Act} (x : Operand) (ho : o.op = .buildSlice 36 1 #[(0, x)]) (p : ByteArray) (hx : a.eval x = .string p) (w : World) : (execOp a.eval o).run Tryz.prog w = .ok (.value (.slice (some ⟨w.heap.size, 0, none⟩) 1 1)) (w.alloc (.cells #[.string p] 9)) := by
 obtain ⟨ie, hi, hzz⟩ := Option.map_eq_some_iff.1 infoStr
 simp only [Prod.mk.injEq] at hzz
 unfold execOp
 simp only [ho, Sem.run_bind]
 have e : (Array.map (fun x : Nat × Operand => (x.1, a.eval x.2)) #[(0, x)]) = #[(0, .string p)] := by simp [hx]
 have hf := run_buildSlice (P := Tryz.prog) w 36 9 1 #[(0, .string p)] #[.string p] ie (.string ByteArray.empty) Tryz.underlying36 hi hzz.1 (by rw [hzz.2.1]; omega) (by rw [hzz.2.1]; omega) (by rw [hzz.2.1]; exact fill_one 0 (.string p) _ _ (by simp [Value.cells]) (by simp [Value.cells]))
 rw [e, hf]
 rfl
theorem bs2L_run {o : Oper} {a : Act} (x y : Operand) (ho : o.op = .buildSlice 25 2 #[(0, x), (1, y)]) (p q : Lf) (hx : a.eval x = .agg (cL p)) (hy : a.eval y = .agg (cL q)) (w : World) : (execOp a.eval o).run Tryz.prog w = .ok (.value (.slice (some ⟨w.heap.size, 0, none⟩) 2 2)) (w.alloc (.cells (cL p ++ cL q) 32)) := by
 obtain ⟨ie, hi, hzz⟩ := Option.map_eq_some_iff.1 infoL
 simp only [Prod.mk.injEq] at hzz
 unfold execOp
 simp only [ho, Sem.run_bind]
 have e : (Array.map (fun x : Nat × Operand => (x.1, a.eval x.2)) #[(0, x), (1, y)]) = #[(0, .agg (cL p)), (1, .agg (cL q))] := by simp [hx, hy]
 have hf := run_buildSlice (P := Tryz.prog) w 25 32 2 #[(0, .agg (cL p)), (1, .agg (cL q))] (cL p ++ cL q) ie (.agg (cL zL)) Tryz.underlying25 hi hzz.1 (by rw [hzz.2.1]; omega) (by rw [hzz.2.1]; omega) (by
  rw [hzz.2.1]
  exact fill_two 0 1 (.agg (cL p)) (.agg (cL q)) _ _ (by show some (0, 33) = some (0, (cL p).size); rw [cL_size]) (by show some (33, 33) = some ((cL p).size, (cL q).size); rw [cL_size, cL_size]) (by show _ = (cL p).size + (cL q).size; rw [cL_size, cL_size]; simp))
 rw [e, hf]
 rfl
theorem cell_F0 {w : World} {g t : Nat} {v : Value} {n : Int} {b : Bool} {fr : Nat × Nat} {D : Array Value} (hD : D = cF v n b) (hg : w.heap[g]? = some (.cells D t fr)) : w.cell? ⟨g, 0, none⟩ = some v := (cell_of_row w g 0 _ t fr hg).trans (by rw [hD]; rfl)
theorem cell_F1 {w : World} {g t : Nat} {v : Value} {n : Int} {b : Bool} {fr : Nat × Nat} {D : Array Value} (hD : D = cF v n b) (hg : w.heap[g]? = some (.cells D t fr)) : w.cell? ⟨g, 1, none⟩ = some (.int .i64 n) := (cell_of_row w g 1 _ t fr hg).trans (by rw [hD]; rfl)
set_option maxHeartbeats 8000000 in
theorem sanity_calls (w : World) (hW : Words w) : Calls Tryz.prog 4 #[] w fun e w' => e = .returned (.bool true) ∧ Below w.heap.size w w' := by
 have HWW := Aside0.mk hW
 obtain ⟨g, hg⟩ : ∃ g, g = w.heap.size := ⟨_, rfl⟩
 have HG := Aside0.mk hg
 obtain ⟨v7, hv7⟩ : ∃ v, v = sB 7 := ⟨_, rfl⟩
 have H7 := Aside0.mk hv7
 obtain ⟨x, hx⟩ : ∃ x : Lf, x = ⟨⟨#[97]⟩, v7⟩ := ⟨_, rfl⟩
 have HX := Aside0.mk hx
 obtain ⟨wb, hwb⟩ : ∃ wb, ((w.alloc (.cells (cL zL) 32)).setRow w.heap.size (cL x)) = wb := ⟨_, rfl⟩
 have HWB := Aside0.mk hwb
 have hb1 : wb.heap[g]? = some (.cells (cL x) 32 (0, 0)) := by rw [← hwb, ← hg]; exact setRow_heap _ _ _ _ _ _ (h_new hg)
 have hb2 : Below w.heap.size w wb := by rw [← hwb]; exact below_setRow (below_alloc (Below.refl _ _) _) (Nat.le_refl _)
 have hb3 : wb.heap.size = g + 1 := by rw [← hwb, size_setRow, size_alloc, hg]
 have HB := Aside0.mk (⟨hb1, hb2, hb3⟩ : _ ∧ _ ∧ _)
 obtain ⟨wc, hwc⟩ : ∃ wc, wb.alloc (.cells (cL x) 32) = wc := ⟨_, rfl⟩
 have HWC := Aside0.mk hwc
 have hc1 : wc.heap[g + 1]? = some (.cells (cL x) 32 (0, 0)) := by rw [← hwc]; exact h_new hb3.symm
 have hc2 : Below wb.heap.size wb wc := by rw [← hwc]; exact below_alloc (Below.refl _ _) _
 have hc3 : wc.heap.size = g + 2 := by rw [← hwc, size_alloc, hb3]
 have hc4 : kL.R 32 wc (g + 1) (fun _ => True) (.slice (some ⟨g + 1, 0, none⟩) 1 1) [x] := by have h := lit_L1 wb x; rw [hwc, hb3] at h; exact h
 have HC := Aside0.mk (⟨hc1, hc2, hc3, hc4⟩ : _ ∧ _ ∧ _ ∧ _)
 obtain ⟨wd, hwd⟩ : ∃ wd, wc.alloc (.cells #[.int .u8 97] 5) = wd := ⟨_, rfl⟩
 have HWD := Aside0.mk hwd
 have hd1 : wd.heap[g + 2]? = some (.cells #[.int .u8 97] 5 (0, 0)) := by rw [← hwd]; exact h_new hc3.symm
 have hd2 : Below wc.heap.size wc wd := by rw [← hwd]; exact below_alloc (Below.refl _ _) _
 have hd3 : wd.heap.size = g + 3 := by rw [← hwd, size_alloc, hc3]
 obtain ⟨we, hcv, he1, he2, he3, he4⟩ := convert_lit Tryz.prog wd 53 (g + 2) 1 1 Tryz.underlying53 Tryz.underlying5 hd1
 have HCV := Aside0.mk hcv
 obtain ⟨wf, hwf⟩ : ∃ wf, we.alloc (.cells #[.slice (some ⟨g + 2, 0, none⟩) 1 1, .slice (some ⟨g, 1, none⟩) 32 32] 53) = wf := ⟨_, rfl⟩
 have HWF := Aside0.mk hwf
 have hf1 : wf.heap[g + 3]? = some (.cells #[.slice (some ⟨g + 2, 0, none⟩) 1 1, .slice (some ⟨g, 1, none⟩) 32 32] 53 (0, 0)) := by rw [← hwf]; exact h_new (by omega)
 have hf2 : Below we.heap.size we wf := by rw [← hwf]; exact below_alloc (Below.refl _ _) _
 have hf3 : wf.heap.size = g + 4 := by rw [← hwf, size_alloc]; omega
 have hcf : Below (g + 2) wc wf := (hd2.mono (by omega)).trans (he1.trans (hf2.mono (by omega)))
 have hf4 : wf.heap[g]? = some (.cells (cL x) 32 (0, 0)) := (hcf.block g (by omega)).trans ((hc2.block g (by omega)).trans hb1)
 have hf5 : kL.R 32 wf (g + 1) (fun _ => True) (.slice (some ⟨g + 1, 0, none⟩) 1 1) [x] := Kd.R_below hc4 (hcf.mono (by omega))
 have hf6 : Below w.heap.size w wf := (hb2.trans (hc2.mono (by omega))).trans (hcf.mono (by omega))
 have hf7 : (Kd.int .u8).C wf (some ⟨g + 2, 0, none⟩) [(97 : Int)].length [97] := byte_C (by
  have h : we.cell? ⟨g + 2, 0, none⟩ = some (.int .u8 97) := (he4 0).trans (cell_of_row wd (g + 2) 0 _ 5 _ hd1)
  exact (hf2.cell (World.block_lt_of_cell? _ _ h)).trans h)
 have hf8 : (Kd.int .u8).C wf (some ⟨g, 1, none⟩) x.v.b.length x.v.b := sum_C (at_L1 (row_cells hf4))
 have hf9 : Kd.C (Kd.slice 5 (Kd.int .u8)) wf (some ⟨g + 3, 0, none⟩) [[(97 : Int)], x.v.b].length [[(97 : Int)], x.v.b] := two_rows (by rw [x.v.h]; exact hf1) hf7 (by decide) hf8 (by rw [x.v.h]; omega)
 have hleaf : hof 76 [[97], x.v.b] = leafH x := by rw [leafH, hx]; rfl
 have hof3 := of3H_calls 76 (by omega) [[(97 : Int)], x.v.b] (Fit2 (by decide) (by rw [x.v.h]; omega) (by simp) x.v.r) (some ⟨g + 3, 0, none⟩) 2 wf hf9 (by simp)
 obtain ⟨r, hr⟩ : ∃ r, leafH x = r := ⟨_, rfl⟩
 rw [hleaf, hr] at hof3
 have HOF := Aside0.mk hof3
 have HR := Aside0.mk hr
 have HF := Aside0.mk (⟨hf4, hf5, hf6, hf3⟩ : _ ∧ _ ∧ _ ∧ _)
 have HC3 := Aside0.mk hc3
 have HE2 := Aside0.mk (show we.heap.size = g + 3 by omega)
 obtain ⟨y0, hy0⟩ : ∃ y : Lf, y = zL := ⟨_, rfl⟩
 obtain ⟨z0, hz0⟩ : ∃ z : Sm, z = zS := ⟨_, rfl⟩
 obtain ⟨q0, hq0⟩ : ∃ q : Ck, q = zK := ⟨_, rfl⟩
 obtain ⟨q1, hq1⟩ : ∃ q : Ck, q = ⟨zS, false, true⟩ := ⟨_, rfl⟩
 obtain ⟨q3, hq3⟩ : ∃ q : Ck, q = ⟨x.v, true, true⟩ := ⟨_, rfl⟩
 have HQ := Aside0.mk (⟨hy0, hz0, hq0, hq1, hq3⟩ : _ ∧ _ ∧ _ ∧ _ ∧ _)
 have HXK := Aside0.mk (show x.k = ⟨#[97]⟩ by rw [hx])
 have HXS := Aside0.mk (show x.k.size ≤ 100000 by rw [hx]; show (⟨#[97]⟩ : ByteArray).size ≤ 100000; decide)
 have HNE := Aside0.mk (show ¬ leafH x = zS by rw [hx, hv7]; exact leaf_ne)
 have HN2 := Aside0.mk (show ¬ x.k = ⟨#[98]⟩ by rw [hx]; show ¬ (⟨#[97]⟩ : ByteArray) = ⟨#[98]⟩; decide)
 obtain ⟨Z36, hz36⟩ : ∃ Z, Z = cP (.slice none 0 0) 0 zL := ⟨_, rfl⟩
 have HZ36 := Aside0.mk (And.intro (show ∀ w, (zeroValue 34).run Tryz.prog w = .ok (.agg Z36) w by rw [hz36]; exact zero36) (And.intro (show Z36.size = 35 by rw [hz36]; exact cP_size _ _ _) (And.intro (show Tryz.prog.built 34 [] = some Z36 by rw [hz36]; kernel_rfl) hz36)))
 obtain ⟨Z56, hz56⟩ : ∃ Z, Z = cF (.slice none 0 0) 0 false := ⟨_, rfl⟩
 have HZ56 := Aside0.mk (And.intro (show ∀ w, (zeroValue 38).run Tryz.prog w = .ok (.agg Z56) w by rw [hz56]; exact zero56) (show Z56.size = 3 by rw [hz56]; rfl))
 clear hz36 hz56
 have hD3 : ∃ D, D = cP (.slice none 0 0) 2 x := ⟨_, rfl⟩
 obtain ⟨D3, hD3⟩ := hD3
 have HD3 := Aside0.mk hD3
 have HQC := Aside0.mk (⟨by rw [hz0, hy0, hq1]; exact ck_nil _, by rw [← HR.out, hq1]; exact ck_other HN2.out, by rw [hq0]; exact ck_not HXK.out _ _, by rw [← HR.out, hq3]; exact ck_same HXK.out, by rw [hz0]; kernel_rfl, by rw [hq0]; kernel_rfl, by rw [hy0]; decide⟩ :
  ckOf z0 ⟨#[98]⟩ [] 0 y0 = q1 ∧ ckOf r ⟨#[98]⟩ [] 2 x = q1 ∧ ckOf r ⟨#[97]⟩ [] 2 x = q0 ∧ ckOf r ⟨#[97]⟩ [] 1 x = q3 ∧ Tryz.prog.built 30 [] = some (cS z0) ∧ Tryz.prog.built 45 [] = some (cK q0) ∧ y0.k.size ≤ 100000)
 clear hD3
 clear hy0 hz0 hq0 hq1 hq3
 clear hwd hd1 hd2 hd3 hcv he1 he2 he3 he4 hwf hf1 hf2 hf3 hcf hf4 hf5 hf6 hf7 hf8 hf9 hleaf hof3 hr
 clear hW hg hv7 hx hwb hb1 hb2 hb3 hwc hc1 hc2 hc3 hc4
 go_enter Tryz.func4, Tryz.ntmps4
 go_wp2_with (first
  | ((with_reducible refine gate_dst (N := 9) rfl ?_); (refine bld_S1 rfl _ rfl 7 (by omega) rfl ?_; rw [← H7.out]))
  | (refine bld_L rfl _ _ rfl ⟨#[97]⟩ v7 rfl rfl ?_; rw [← HX.out])
  | ((with_reducible refine gate_store (t := 32) rfl ?_); (refine wpList_store_row rfl 32 (.tmp 1) (.tmp 10) rfl w.heap.size (cL x) rfl rfl 32 (cL zL) (h_new rfl) (by rw [cL_size]; kernel_rfl) (by rw [cL_size, cL_size]) (all_one (cL_one _)) ?_); refine at_world (w' := wb) (by rw [← HWB.out]; rfl) ?_; have hlx := ld_L HB.out.1)
  | ((with_reducible refine gate_dst (N := 11) rfl ?_); rw [← HG.out]; (refine wpList_loadv rfl 32 _ rfl _ rfl _ (hlx 0) ?_))
  | ((with_reducible refine gate_dst (N := 12) rfl ?_); (refine bs1_L rfl _ rfl x rfl ?_); rw [HB.out.2.2]; (refine at_world (w' := wc) HWC.out ?_))
  | ((with_reducible refine gate_dst (N := 14) rfl ?_); rw [HC3.out]; (refine at_world (w' := wd) HWD.out ?_); (refine wpList_convert rfl 53 53 (.tmp 13) rfl _ _ rfl we HCV.out ?_))
  | (refine bs2 rfl (.tmp 14) (.tmp 16) rfl (some ⟨g + 2, 0, none⟩) 1 1 (some ⟨g, 1, none⟩) 32 32 rfl rfl ?_; rw [HE2.out]; (refine at_world (w' := wf) HWF.out ?_))
  | (go_at_call 25; (refine HOF.out.mono ?_); rintro e w1 ⟨rfl, hb1⟩; have H1 := Aside0.mk hb1; clear hb1; obtain ⟨n1, hn1⟩ : ∃ n, n = w1.heap.size := ⟨_, rfl⟩; have HN1 := Aside0.mk hn1; clear hn1)
  | ((with_reducible refine gate_store (t := 30) rfl ?_); (refine wpList_store_row rfl 30 (.tmp 3) (.tmp 18) rfl w1.heap.size (cS r) rfl rfl 30 (cS zS) (h_new rfl) (by rw [cS_size]; kernel_rfl) (by rw [cS_size, cS_size]) (encI_one _) ?_); generalize hwv : World.setRow _ w1.heap.size (cS r) = wv; have hv1 : wv.heap[w1.heap.size]? = some (.cells (cS r) 30 (0, 0)) := (by rw [← hwv]; exact setRow_heap _ _ _ _ _ _ (h_new rfl)); have hvb : Below w1.heap.size w1 wv := (by rw [← hwv]; exact below_setRow (below_alloc (Below.refl _ _) _) (Nat.le_refl _)); have hvs : wv.heap.size = w1.heap.size + 1 := (by rw [← hwv, size_setRow]; exact size_alloc _ _); clear hwv; rw [← HN1.out]; have hsw : SanSt w g n1 x r wv := ⟨HF.out.2.2.1.trans ((H1.out.trans (hvb.mono H1.out.size)).mono (by have := HF.out.2.2.1.size; omega)), HWW.out.below (HF.out.2.2.1.trans ((H1.out.trans (hvb.mono H1.out.size)).mono (by have := HF.out.2.2.1.size; omega))), Kd.R_lower (Kd.R_below HF.out.2.1 (H1.out.trans (hvb.mono H1.out.size))) (Nat.zero_le _), at_next (at_next HF.out.1 H1.out) hvb, by rw [HN1.out]; exact hv1⟩; have HW := Aside0.mk hsw; clear hv1 hvb hvs hlx hsw)
  | (go_at_call 13; (with_reducible refine (ProveNil_calls ⟨#[98]⟩ (by decide) wv HW.out.words y0 HQ.out.1).mono ?_); rintro e w2 ⟨A2, c2, C2, hC2, rfl, hp2, hb2⟩; have H2 := Aside0.mk (And.intro hp2 (HW.out.next hb2)); have HC2 := Aside0.mk hC2; clear hp2 hb2 hC2)
  | (go_at_call 13; (with_reducible refine (ProveOne_calls x ⟨#[98]⟩ HXS.out (by decide) (some ⟨g + 1, 0, none⟩) 1 w2 H2.out.2.words H2.out.2.list (Nat.le_refl _) 2 (by rw [if_neg HN2.out])).mono ?_); rintro e w3 ⟨A3, c3, C3, hC3, rfl, hp3, hb3⟩; have HC4 := Aside0.mk hC3; have H3 := Aside0.mk (⟨Kd.C_below H2.out.1 hb3, hp3, H2.out.2.next hb3⟩ : _ ∧ _ ∧ _); clear hp3 hb3 hC3; obtain ⟨n3, hn3⟩ : ∃ n, n = w3.heap.size := ⟨_, rfl⟩; have HN3 := Aside0.mk hn3; clear hn3; obtain ⟨wx, hwx⟩ : ∃ wx, (w3.alloc (.cells Z36 34)).alloc (.cells Z36 34) = wx := ⟨_, rfl⟩; obtain ⟨wy, hwy⟩ : ∃ wy, (wx.setRow n3 C2).setRow (n3 + 1) C3 = wy := ⟨_, rfl⟩; have HX5 := Aside0.mk (two_boxes HN3.out hwx hwy); have HWX := Aside0.mk hwx; have HWY := Aside0.mk hwy; clear hwx hwy)
  | ((with_reducible refine gate_dst (N := 4) rfl ?_); (refine wpList_allocz rfl 34 Z36 rfl HZ36.out.1 ?_))
  | ((with_reducible refine gate_dst (N := 5) rfl ?_); (refine wpList_allocz rfl 34 Z36 rfl HZ36.out.1 ?_); rw [size_alloc, ← HN3.out])
  | ((with_reducible refine gate_store (t := 34) rfl ?_); rw [HWX.out]; (refine wpList_store_row rfl 34 (.tmp 4) (.tmp 19) rfl n3 C2 rfl rfl 34 Z36 HX5.out.1 (by rw [HC2.out, cP_size]; kernel_rfl) (by rw [HC2.out, cP_size, HZ36.out.2.1]) (all_one (by rw [HC2.out]; exact cP_one rfl _ _)) ?_))
  | ((with_reducible refine gate_store (t := 34) rfl ?_); (refine wpList_store_row rfl 34 (.tmp 5) (.tmp 21) rfl (n3 + 1) C3 rfl rfl 34 Z36 HX5.out.2.1 (by rw [HC4.out, cP_size]; kernel_rfl) (by rw [HC4.out, cP_size, HZ36.out.2.1]) (all_one (by rw [HC4.out]; exact cP_one rfl _ _)) ?_); (refine at_world (w' := wy) HWY.out ?_); have HY := Aside0.mk (⟨H3.out.2.2.next HX5.out.2.2.2.2, HX5.out.2.2.1, HX5.out.2.2.2.1, Kd.C_below H3.out.1 HX5.out.2.2.2.2, Kd.C_below H3.out.2.1 HX5.out.2.2.2.2⟩ : _ ∧ _ ∧ _ ∧ _ ∧ _))
  | (go_at_call 8; (with_reducible refine (DiffNil_calls x HXS.out HNE.out (some ⟨g + 1, 0, none⟩) 1 wy HY.out.1.words HY.out.1.list (Nat.le_refl _)).mono ?_); rintro e w4 ⟨A4, c4, D4, hD4, rfl, hp4, hb4⟩; have HD4 := Aside0.mk hD4; have H4 := Aside0.mk (⟨HY.out.1.next hb4, Kd.R_lower hp4 (Nat.zero_le _), hb4⟩ : _ ∧ _ ∧ _); clear hD4 hp4 hb4)
  | (go_at_call 8; (with_reducible refine (DiffOne_calls x HXS.out (some ⟨g + 1, 0, none⟩) 1 w4 H4.out.1.words H4.out.1.list (Nat.le_refl _)).mono ?_); rintro e w5 ⟨A5, c5, D5, hD5, rfl, hb5⟩; have HD5 := Aside0.mk hD5; have H5 := Aside0.mk (H4.out.2.2.trans (hb5.mono H4.out.2.2.size)); have H5b := Aside0.mk hb5; clear hD5 hb5; obtain ⟨n5, hn5⟩ : ∃ n, n = w5.heap.size := ⟨_, rfl⟩; have HN5 := Aside0.mk hn5; clear hn5; obtain ⟨ux, hux⟩ : ∃ wx, (w5.alloc (.cells Z56 38)).alloc (.cells Z56 38) = wx := ⟨_, rfl⟩; obtain ⟨uy, huy⟩ : ∃ wy, (ux.setRow n5 D4).setRow (n5 + 1) D5 = wy := ⟨_, rfl⟩; have HU5 := Aside0.mk (two_boxes HN5.out hux huy); have HUX := Aside0.mk hux; have HUY := Aside0.mk huy; clear hux huy)
  | ((with_reducible refine gate_dst (N := 6) rfl ?_); (refine wpList_allocz rfl 38 Z56 rfl HZ56.out.1 ?_))
  | ((with_reducible refine gate_dst (N := 7) rfl ?_); (refine wpList_allocz rfl 38 Z56 rfl HZ56.out.1 ?_); rw [size_alloc, ← HN5.out])
  | ((with_reducible refine gate_store (t := 38) rfl ?_); rw [HUX.out]; (refine wpList_store_row rfl 38 (.tmp 6) (.tmp 23) rfl n5 D4 rfl rfl 38 Z56 HU5.out.1 (by rw [HD4.out]; kernel_rfl) (by rw [HD4.out, HZ56.out.2]; rfl) (all_one (by rw [HD4.out]; intro u hu; simp [cF] at hu; rcases hu with rfl | rfl | rfl <;> rfl)) ?_))
  | ((with_reducible refine gate_store (t := 38) rfl ?_); (refine wpList_store_row rfl 38 (.tmp 7) (.tmp 26) rfl (n5 + 1) D5 rfl rfl 38 Z56 HU5.out.2.1 (by rw [HD5.out]; kernel_rfl) (by rw [HD5.out, HZ56.out.2]; rfl) (all_one (by rw [HD5.out]; intro u hu; simp [cF] at hu; rcases hu with rfl | rfl | rfl <;> rfl)) ?_); (refine at_world (w' := uy) HUY.out ?_); have hub : Below wy.heap.size wy uy := H5.out.trans (HU5.out.2.2.2.2.mono H5.out.size); have hsb : SanB w g n1 x r n3 C2 C3 A2 A3 n5 D4 D5 A4 c4 uy := ⟨HY.out.1.next hub, at_next HY.out.2.1 hub, at_next HY.out.2.2.1 hub, Kd.C_below HY.out.2.2.2.1 hub, Kd.C_below HY.out.2.2.2.2 hub, HU5.out.2.2.1, HU5.out.2.2.2.1, Kd.R_below (Kd.R_below H4.out.2.1 H5b.out) HU5.out.2.2.2.2⟩; have HS := Aside0.mk hsb; clear hub hsb)
  | ((with_reducible refine gate_dst (N := 27) rfl ?_); (refine wpList_loadv rfl 34 _ rfl _ rfl _ (ld_Pq HC2.out HS.out.b2) ?_))
  | ((with_reducible refine gate_dst (N := 28) rfl ?_); (refine wpList_built0 rfl 34 rfl Z36 HZ36.out.2.2.1 ?_))
  | (go_at_call 12; have hk : kS.C uy none 0 [] := Kd.C_nil _ _; (with_reducible refine (SameP_calls HC2.out HZ36.out.2.2.2 rfl HQ.out.1 uy HS.out.k2 hk).mono ?_); clear hk; rintro e v1 ⟨rfl, hb⟩; have Hv1 := Aside0.mk (HS.out.next hb); clear hb)
  | ((with_reducible refine gate_dst (N := 31) rfl ?_); refine wpList_wanted (by rfl) ?_; (refine wpList_loadv rfl 34 _ rfl _ rfl _ (ld_Pq HC4.out Hv1.out.b3) ?_))
  | ((with_reducible refine gate_dst (N := 32) rfl ?_); refine wpList_wanted (by rfl) ?_; (refine wpList_loadv rfl 32 _ rfl _ rfl _ (ld_L Hv1.out.st.bx 0) ?_))
  | ((with_reducible refine gate_dst (N := 33) rfl ?_); refine wpList_wanted (by rfl) ?_; (refine bld_P2 rfl _ rfl x D3 HD3.out rfl ?_))
  | (go_at_call 12; have hk : kS.C v1 none 0 [] := Kd.C_nil _ _; (with_reducible refine (SameP_calls HC4.out HD3.out rfl rfl v1 Hv1.out.k3 hk).mono ?_); clear hk; rintro e v2 ⟨rfl, hb⟩; have Hv2 := Aside0.mk (Hv1.out.next hb); clear hb)
  | ((with_reducible refine gate_dst (N := 37) rfl ?_); refine wpList_wanted (by rfl) ?_; (refine wpList_built0 rfl 30 rfl (cS z0) HQC.out.2.2.2.2.1 ?_))
  | ((with_reducible refine gate_dst (N := 38) rfl ?_); refine wpList_wanted (by rfl) ?_; (refine wpList_loadv rfl 34 _ rfl _ rfl _ (ld_Pq HC2.out Hv2.out.b2) ?_))
  | (go_at_call 16; (with_reducible refine (CheckC_calls HC2.out z0 ⟨#[98]⟩ (by decide) HQC.out.2.2.2.2.2.2 v2 Hv2.out.st.words Hv2.out.k2 q1 HQC.out.1).mono ?_); rintro e v3 ⟨rfl, hb⟩; have Hv3 := Aside0.mk (Hv2.out.next hb); clear hb)
  | ((with_reducible refine gate_dst (N := 40) rfl ?_); refine wpList_wanted (by rfl) ?_; (refine bld_K2 rfl rfl q1 HQ.out.2.2.2.1 ?_))
  | ((with_reducible refine gate_dst (N := 41) rfl ?_); refine wpList_wanted (by rfl) ?_; refine wpList_eql rfl _ _ _ _ rfl _ _ rfl rfl gt_K _ (fun w => eqK w _ _) ?_)
  | ((with_reducible refine gate_dst (N := 44) rfl ?_); refine wpList_wanted (by rfl) ?_; (refine wpList_loadv rfl 30 _ rfl _ rfl _ (ld_S Hv3.out.st.br 0) ?_))
  | ((with_reducible refine gate_dst (N := 45) rfl ?_); refine wpList_wanted (by rfl) ?_; (refine wpList_loadv rfl 34 _ rfl _ rfl _ (ld_Pq HC4.out Hv3.out.b3) ?_))
  | (go_at_call 16; (with_reducible refine (CheckC_calls HC4.out r ⟨#[98]⟩ (by decide) HXS.out v3 Hv3.out.st.words Hv3.out.k3 q1 HQC.out.2.1).mono ?_); rintro e v4 ⟨rfl, hb⟩; have Hv4 := Aside0.mk (Hv3.out.next hb); clear hb)
  | ((with_reducible refine gate_dst (N := 47) rfl ?_); refine wpList_wanted (by rfl) ?_; (refine bld_K2 rfl rfl q1 HQ.out.2.2.2.1 ?_))
  | ((with_reducible refine gate_dst (N := 48) rfl ?_); refine wpList_wanted (by rfl) ?_; refine wpList_eql rfl _ _ _ _ rfl _ _ rfl rfl gt_K _ (fun w => eqK w _ _) ?_)
  | ((with_reducible refine gate_dst (N := 51) rfl ?_); refine wpList_wanted (by rfl) ?_; (refine wpList_loadv rfl 30 _ rfl _ rfl _ (ld_S Hv4.out.st.br 0) ?_))
  | ((with_reducible refine gate_dst (N := 52) rfl ?_); refine wpList_wanted (by rfl) ?_; (refine wpList_loadv rfl 34 _ rfl _ rfl _ (ld_Pq HC4.out Hv4.out.b3) ?_))
  | (go_at_call 16; (with_reducible refine (CheckC_calls HC4.out r ⟨#[97]⟩ (by decide) HXS.out v4 Hv4.out.st.words Hv4.out.k3 q0 HQC.out.2.2.1).mono ?_); rintro e v5 ⟨rfl, hb⟩; have Hv5 := Aside0.mk (Hv4.out.next hb); clear hb)
  | ((with_reducible refine gate_dst (N := 54) rfl ?_); refine wpList_wanted (by rfl) ?_; (refine wpList_built0 rfl 45 rfl (cK q0) HQC.out.2.2.2.2.2.1 ?_))
  | ((with_reducible refine gate_dst (N := 55) rfl ?_); refine wpList_wanted (by rfl) ?_; refine wpList_eql rfl _ _ _ _ rfl _ _ rfl rfl gt_K _ (fun w => eqK w _ _) ?_))
 clear HW H2 H3 HX5 HWX HWY HY H4 H5 H5b HU5 HUX HUY HS Hv1 Hv2 Hv3 Hv4 HB HC HWB HWC HWD HCV HWF HOF HF
 refine start_ (n := 56) (S := fun w' => Below v5.heap.size v5 w') (ds := [55]) #[false, false, false, false, false, false, false, false, false, false, false, false, false, false, false, false, false, false, false, false, false, false, false, false, false, false, false, false, false, false, false, false, false, false, false, false, false, false, false, false, false, false, false, false, false, false, false, false, false, false, false, false, false, false, false, false] (by as_aux_lemma => kernel_rfl) rfl rfl (Below.refl _ _).drew (fun hHeld => ?_)
 refine pure_ (i := 0) (N := some 57) (v := ?_) (a' := ?_) #[true, false, false, false, false, false, false, false, false, false, false, false, false, false, false, false, false, false, false, false, false, false, false, false, false, false, false, false, false, false, false, false, false, false, false, false, false, false, false, false, false, false, false, false, false, false, false, false, false, false, false, false, false, false, false, false] rfl rfl (by as_aux_lemma => kernel_rfl) (fun _ _ _ h => h) (Or.inl ⟨by rfl, ?_⟩) ?_ ?_
 rotate_left
 ·intro w'
  go_simp
  with_reducible rfl
 rotate_left
 ·simp only [Act.put, lZa, lZb, lZc, i64_w, i32_w]
  rfl
 refine pure_ (i := 1) (N := some 58) (v := ?_) (a' := ?_) #[true, true, false, false, false, false, false, false, false, false, false, false, false, false, false, false, false, false, false, false, false, false, false, false, false, false, false, false, false, false, false, false, false, false, false, false, false, false, false, false, false, false, false, false, false, false, false, false, false, false, false, false, false, false, false, false] rfl rfl (by as_aux_lemma => kernel_rfl) (fun _ _ _ h => h) (Or.inl ⟨by rfl, ?_⟩) ?_ ?_
 rotate_left
 ·intro w'
  go_simp
  with_reducible rfl
 rotate_left
 ·simp only [Act.put, lZa, lZb, lZc, i64_w, i32_w]
  rfl
 refine pure_ (i := 3) (N := some 60) (v := .agg (cS z0)) (a' := ?_) #[true, true, false, true, false, false, false, false, false, false, false, false, false, false, false, false, false, false, false, false, false, false, false, false, false, false, false, false, false, false, false, false, false, false, false, false, false, false, false, false, false, false, false, false, false, false, false, false, false, false, false, false, false, false, false, false] rfl rfl (by as_aux_lemma => kernel_rfl) (fun _ _ _ h => h) (Or.inl ⟨by rfl, fun w' => yield_built 30 #[] rfl (cS z0) [] (by simp) HQC.out.2.2.2.2.1⟩) ?_ ?_
 rotate_left
 ·simp only [Act.put, lZa, lZb, lZc, i64_w, i32_w]
  rfl
 refine one_ (i := 2) (N := some 59) #[true, true, true, true, false, false, false, false, false, false, false, false, false, false, false, false, false, false, false, false, false, false, false, false, false, false, false, false, false, false, false, false, false, false, false, false, false, false, false, false, false, false, false, false, false, false, false, false, false, false, false, false, false, false, false, false] rfl rfl (by as_aux_lemma => kernel_rfl) (by decide) (fun K hK => ?_)
 refine goes_ Tryz.func10 (by kernel_rfl) rfl #[.slice none 0 0] (by rfl) rfl rfl (by simp only [List.map_toArray, List.map_cons, List.map_nil]; rfl) ?_
 refine (RootNil_calls _ (Hv5.out.next hHeld).st.words z0 HQ.out.2.1).mono ?_
 rintro e u1 ⟨rfl, hb⟩
 refine ⟨_, rfl, ?_⟩
 refine hK.out _ _ (below_tr hHeld hb hHeld.size) (fun hHeld => ?_)
 clear hK K
 refine norm_ (a' := ?_) ?_ ?_
 rotate_left
 ·show Act.put _ (some 59) _ = _
  simp only [Act.put, lZa, lZb, lZc, i64_w, i32_w]
  rfl
 refine pure_ (i := 4) (N := some 61) (v := .bool true) (a' := ?_) #[true, true, true, true, true, false, false, false, false, false, false, false, false, false, false, false, false, false, false, false, false, false, false, false, false, false, false, false, false, false, false, false, false, false, false, false, false, false, false, false, false, false, false, false, false, false, false, false, false, false, false, false, false, false, false, false] rfl rfl (by as_aux_lemma => kernel_rfl) (fun _ _ _ h => h) (Or.inl ⟨by rfl, fun w' => yield_eql _ _ _ _ rfl _ _ rfl rfl gt_S (eqS_r w' z0)⟩) ?_ ?_
 rotate_left
 ·simp only [Act.put, lZa, lZb, lZc, i64_w, i32_w]
  rfl
 refine pure_ (i := 5) (N := some 62) (v := ?_) (a' := ?_) #[true, true, true, true, true, true, false, false, false, false, false, false, false, false, false, false, false, false, false, false, false, false, false, false, false, false, false, false, false, false, false, false, false, false, false, false, false, false, false, false, false, false, false, false, false, false, false, false, false, false, false, false, false, false, false, false] rfl rfl (by as_aux_lemma => kernel_rfl) (fun _ _ _ h => h) (Or.inl ⟨by rfl, ?_⟩) ?_ ?_
 rotate_left
 ·intro w'
  go_simp
  with_reducible rfl
 rotate_left
 ·simp only [Act.put, lZa, lZb, lZc, i64_w, i32_w]
  rfl
 refine pure_ (i := 6) (N := some 63) (v := ?_) (a' := ?_) #[true, true, true, true, true, true, true, false, false, false, false, false, false, false, false, false, false, false, false, false, false, false, false, false, false, false, false, false, false, false, false, false, false, false, false, false, false, false, false, false, false, false, false, false, false, false, false, false, false, false, false, false, false, false, false, false] rfl rfl (by as_aux_lemma => kernel_rfl) (fun _ _ _ h => h) (Or.inl ⟨by rfl, ?_⟩) ?_ ?_
 rotate_left
 ·intro w'
  go_simp
  with_reducible rfl
 rotate_left
 ·simp only [Act.put, lZa, lZb, lZc, i64_w, i32_w]
  rfl
 refine pure_ (i := 7) (N := some 64) (v := ?_) (a' := ?_) #[true, true, true, true, true, true, true, true, false, false, false, false, false, false, false, false, false, false, false, false, false, false, false, false, false, false, false, false, false, false, false, false, false, false, false, false, false, false, false, false, false, false, false, false, false, false, false, false, false, false, false, false, false, false, false, false] rfl rfl (by as_aux_lemma => kernel_rfl) (fun _ _ _ h => h) (Or.inl ⟨by rfl, ?_⟩) ?_ ?_
 rotate_left
 ·intro w'
  go_simp
  with_reducible rfl
 rotate_left
 ·simp only [Act.put, lZa, lZb, lZc, i64_w, i32_w]
  rfl
 refine takeD_ (i := 9) (N := some 66) (v := .agg (cS r)) (a' := ?_) #[true, true, true, true, true, true, true, true, false, true, false, false, false, false, false, false, false, false, false, false, false, false, false, false, false, false, false, false, false, false, false, false, false, false, false, false, false, false, false, false, false, false, false, false, false, false, false, false, false, false, false, false, false, false, false, false] rfl rfl (by as_aux_lemma => kernel_rfl) (fun _ _ _ h => h) (Or.inl ⟨by rfl, fun w' hS => yield_load _ _ rfl _ rfl (ld_S (Hv5.out.next hS).st.br 0)⟩) hHeld ?_ ?_
 rotate_left
 ·simp only [Act.put, lZa, lZb, lZc, i64_w, i32_w]
  rfl
 refine one_ (i := 8) (N := some 65) #[true, true, true, true, true, true, true, true, true, true, false, false, false, false, false, false, false, false, false, false, false, false, false, false, false, false, false, false, false, false, false, false, false, false, false, false, false, false, false, false, false, false, false, false, false, false, false, false, false, false, false, false, false, false, false, false] rfl rfl (by as_aux_lemma => kernel_rfl) (by decide) (fun K hK => ?_)
 refine goes_ Tryz.func10 (by kernel_rfl) rfl #[.slice (some ⟨g + 1, 0, none⟩) 1 1] (by rfl) rfl rfl (by simp only [List.map_toArray, List.map_cons, List.map_nil]; rfl) ?_
 refine (RootOne_calls x HXS.out (some ⟨g + 1, 0, none⟩) 1 _ (Hv5.out.next hHeld).st.words (Hv5.out.next hHeld).st.list (Nat.le_refl _)).mono ?_
 rw [HR.out]
 rintro e u2 ⟨rfl, hb⟩
 refine ⟨_, rfl, ?_⟩
 refine hK.out _ _ (below_tr hHeld hb hHeld.size) (fun hHeld => ?_)
 clear hK K
 refine norm_ (a' := ?_) ?_ ?_
 rotate_left
 ·show Act.put _ (some 65) _ = _
  simp only [Act.put, lZa, lZb, lZc, i64_w, i32_w]
  rfl
 refine pure_ (i := 10) (N := some 67) (v := .bool true) (a' := ?_) #[true, true, true, true, true, true, true, true, true, true, true, false, false, false, false, false, false, false, false, false, false, false, false, false, false, false, false, false, false, false, false, false, false, false, false, false, false, false, false, false, false, false, false, false, false, false, false, false, false, false, false, false, false, false, false, false] rfl rfl (by as_aux_lemma => kernel_rfl) (fun _ _ _ h => h) (Or.inl ⟨by rfl, fun w' => yield_eql _ _ _ _ rfl _ _ rfl rfl gt_S (eqS_r w' r)⟩) ?_ ?_
 rotate_left
 ·simp only [Act.put, lZa, lZb, lZc, i64_w, i32_w]
  rfl
 refine pure_ (i := 11) (N := some 68) (v := ?_) (a' := ?_) #[true, true, true, true, true, true, true, true, true, true, true, true, false, false, false, false, false, false, false, false, false, false, false, false, false, false, false, false, false, false, false, false, false, false, false, false, false, false, false, false, false, false, false, false, false, false, false, false, false, false, false, false, false, false, false, false] rfl rfl (by as_aux_lemma => kernel_rfl) (fun _ _ _ h => h) (Or.inl ⟨by rfl, ?_⟩) ?_ ?_
 rotate_left
 ·intro w'
  go_simp
  with_reducible rfl
 rotate_left
 ·simp only [Act.put, lZa, lZb, lZc, i64_w, i32_w]
  rfl
 refine pure_ (i := 12) (N := some 69) (v := ?_) (a' := ?_) #[true, true, true, true, true, true, true, true, true, true, true, true, true, false, false, false, false, false, false, false, false, false, false, false, false, false, false, false, false, false, false, false, false, false, false, false, false, false, false, false, false, false, false, false, false, false, false, false, false, false, false, false, false, false, false, false] rfl rfl (by as_aux_lemma => kernel_rfl) (fun _ _ _ h => h) (Or.inl ⟨by rfl, ?_⟩) ?_ ?_
 rotate_left
 ·intro w'
  go_simp
  with_reducible rfl
 rotate_left
 ·simp only [Act.put, lZa, lZb, lZc, i64_w, i32_w]
  rfl
 refine pure_ (i := 13) (N := some 70) (v := ?_) (a' := ?_) #[true, true, true, true, true, true, true, true, true, true, true, true, true, true, false, false, false, false, false, false, false, false, false, false, false, false, false, false, false, false, false, false, false, false, false, false, false, false, false, false, false, false, false, false, false, false, false, false, false, false, false, false, false, false, false, false] rfl rfl (by as_aux_lemma => kernel_rfl) (fun _ _ _ h => h) (Or.inl ⟨by rfl, ?_⟩) ?_ ?_
 rotate_left
 ·intro w'
  go_simp
  with_reducible rfl
 rotate_left
 ·simp only [Act.put, lZa, lZb, lZc, i64_w, i32_w]
  rfl
 refine takeD_ (i := 14) (N := some 71) (v := ?_) (a' := ?_) #[true, true, true, true, true, true, true, true, true, true, true, true, true, true, true, false, false, false, false, false, false, false, false, false, false, false, false, false, false, false, false, false, false, false, false, false, false, false, false, false, false, false, false, false, false, false, false, false, false, false, false, false, false, false, false, false] rfl rfl (by as_aux_lemma => kernel_rfl) (fun _ _ _ h => h) (Or.inl ⟨by rfl, ?_⟩) hHeld ?_ ?_
 rotate_left
 ·intro w' hS
  have hx := cell_F0 HD4.out (Hv5.out.next hS).b4
  go_simp
  with_reducible rfl
 rotate_left
 ·simp only [Act.put, lZa, lZb, lZc, i64_w, i32_w]
  rfl
 refine one_ (i := 15) (N := some 72) #[true, true, true, true, true, true, true, true, true, true, true, true, true, true, true, true, false, false, false, false, false, false, false, false, false, false, false, false, false, false, false, false, false, false, false, false, false, false, false, false, false, false, false, false, false, false, false, false, false, false, false, false, false, false, false, false] rfl rfl (by as_aux_lemma => kernel_rfl) (by decide) (fun K hK => ?_)
 refine value_ (by rfl) rfl (bs1Str_run _ rfl ⟨#[97]⟩ rfl _) ?_
 refine hK.out _ _ (below_tr hHeld (below_alloc (Below.refl _ _) _) hHeld.size) (fun hHeld => ?_)
 clear hK K
 refine norm_ (a' := ?_) ?_ ?_
 rotate_left
 ·show Act.put _ (some 72) _ = _
  simp only [Act.put, lZa, lZb, lZc, i64_w, i32_w]
  rfl
 refine one_ (i := 16) (N := some 73) #[true, true, true, true, true, true, true, true, true, true, true, true, true, true, true, true, true, false, false, false, false, false, false, false, false, false, false, false, false, false, false, false, false, false, false, false, false, false, false, false, false, false, false, false, false, false, false, false, false, false, false, false, false, false, false, false] rfl rfl (by as_aux_lemma => kernel_rfl) (by decide) (fun K hK => ?_)
 refine goes_ Tryz.func14 (by kernel_rfl) rfl #[.slice A4 1 c4, .slice (some ⟨u2.heap.size, 0, none⟩) 1 1] (by rfl) rfl rfl (by simp only [List.map_toArray, List.map_cons, List.map_nil]; rfl) ?_
 refine (SameKeys_calls [x.k] [⟨#[97]⟩] A4 (some ⟨u2.heap.size, 0, none⟩) c4 1 0 _ _ _ _ (Hv5.out.next hHeld).r4 (lit_Str u2 ⟨#[97]⟩) (by simp) (by simp)).mono ?_
 rw [show decide ([x.k] = [(⟨#[97]⟩ : ByteArray)]) = true from by rw [HXK.out]; simp]
 rintro e u3 ⟨rfl, hb3⟩
 refine ⟨_, rfl, ?_⟩
 refine hK.out _ _ (below_tr hHeld hb3 hHeld.size) (fun hHeld => ?_)
 clear hK K
 refine norm_ (a' := ?_) ?_ ?_
 rotate_left
 ·show Act.put _ (some 73) _ = _
  simp only [Act.put, lZa, lZb, lZc, i64_w, i32_w]
  rfl
 refine pure_ (i := 17) (N := some 74) (v := ?_) (a' := ?_) #[true, true, true, true, true, true, true, true, true, true, true, true, true, true, true, true, true, true, false, false, false, false, false, false, false, false, false, false, false, false, false, false, false, false, false, false, false, false, false, false, false, false, false, false, false, false, false, false, false, false, false, false, false, false, false, false] rfl rfl (by as_aux_lemma => kernel_rfl) (fun _ _ _ h => h) (Or.inl ⟨by rfl, ?_⟩) ?_ ?_
 rotate_left
 ·intro w'
  go_simp
  with_reducible rfl
 rotate_left
 ·simp only [Act.put, lZa, lZb, lZc, i64_w, i32_w]
  rfl
 refine pure_ (i := 18) (N := some 75) (v := ?_) (a' := ?_) #[true, true, true, true, true, true, true, true, true, true, true, true, true, true, true, true, true, true, true, false, false, false, false, false, false, false, false, false, false, false, false, false, false, false, false, false, false, false, false, false, false, false, false, false, false, false, false, false, false, false, false, false, false, false, false, false] rfl rfl (by as_aux_lemma => kernel_rfl) (fun _ _ _ h => h) (Or.inl ⟨by rfl, ?_⟩) ?_ ?_
 rotate_left
 ·intro w'
  go_simp
  with_reducible rfl
 rotate_left
 ·simp only [Act.put, lZa, lZb, lZc, i64_w, i32_w]
  rfl
 refine pure_ (i := 19) (N := some 76) (v := ?_) (a' := ?_) #[true, true, true, true, true, true, true, true, true, true, true, true, true, true, true, true, true, true, true, true, false, false, false, false, false, false, false, false, false, false, false, false, false, false, false, false, false, false, false, false, false, false, false, false, false, false, false, false, false, false, false, false, false, false, false, false] rfl rfl (by as_aux_lemma => kernel_rfl) (fun _ _ _ h => h) (Or.inl ⟨by rfl, ?_⟩) ?_ ?_
 rotate_left
 ·intro w'
  go_simp
  with_reducible rfl
 rotate_left
 ·simp only [Act.put, lZa, lZb, lZc, i64_w, i32_w]
  rfl
 refine takeD_ (i := 20) (N := some 77) (v := ?_) (a' := ?_) #[true, true, true, true, true, true, true, true, true, true, true, true, true, true, true, true, true, true, true, true, true, false, false, false, false, false, false, false, false, false, false, false, false, false, false, false, false, false, false, false, false, false, false, false, false, false, false, false, false, false, false, false, false, false, false, false] rfl rfl (by as_aux_lemma => kernel_rfl) (fun _ _ _ h => h) (Or.inl ⟨by rfl, ?_⟩) hHeld ?_ ?_
 rotate_left
 ·intro w' hS
  have hx := cell_F1 HD4.out (Hv5.out.next hS).b4
  go_simp
  with_reducible rfl
 rotate_left
 ·simp only [Act.put, lZa, lZb, lZc, i64_w, i32_w]
  rfl
 refine pure_ (i := 21) (N := some 78) (v := ?_) (a' := ?_) #[true, true, true, true, true, true, true, true, true, true, true, true, true, true, true, true, true, true, true, true, true, true, false, false, false, false, false, false, false, false, false, false, false, false, false, false, false, false, false, false, false, false, false, false, false, false, false, false, false, false, false, false, false, false, false, false] rfl rfl (by as_aux_lemma => kernel_rfl) (fun _ _ _ h => h) (Or.inl ⟨by rfl, ?_⟩) ?_ ?_
 rotate_left
 ·intro w'
  go_simp
  with_reducible rfl
 rotate_left
 ·simp only [Act.put, lZa, lZb, lZc, i64_w, i32_w]
  rfl
 refine pure_ (i := 22) (N := some 79) (v := ?_) (a' := ?_) #[true, true, true, true, true, true, true, true, true, true, true, true, true, true, true, true, true, true, true, true, true, true, true, false, false, false, false, false, false, false, false, false, false, false, false, false, false, false, false, false, false, false, false, false, false, false, false, false, false, false, false, false, false, false, false, false] rfl rfl (by as_aux_lemma => kernel_rfl) (fun _ _ _ h => h) (Or.inl ⟨by rfl, ?_⟩) ?_ ?_
 rotate_left
 ·intro w'
  go_simp
  with_reducible rfl
 rotate_left
 ·simp only [Act.put, lZa, lZb, lZc, i64_w, i32_w]
  rfl
 refine pure_ (i := 23) (N := some 80) (v := ?_) (a' := ?_) #[true, true, true, true, true, true, true, true, true, true, true, true, true, true, true, true, true, true, true, true, true, true, true, true, false, false, false, false, false, false, false, false, false, false, false, false, false, false, false, false, false, false, false, false, false, false, false, false, false, false, false, false, false, false, false, false] rfl rfl (by as_aux_lemma => kernel_rfl) (fun _ _ _ h => h) (Or.inl ⟨by rfl, ?_⟩) ?_ ?_
 rotate_left
 ·intro w'
  go_simp
  with_reducible rfl
 rotate_left
 ·simp only [Act.put, lZa, lZb, lZc, i64_w, i32_w]
  rfl
 refine pure_ (i := 24) (N := some 81) (v := ?_) (a' := ?_) #[true, true, true, true, true, true, true, true, true, true, true, true, true, true, true, true, true, true, true, true, true, true, true, true, true, false, false, false, false, false, false, false, false, false, false, false, false, false, false, false, false, false, false, false, false, false, false, false, false, false, false, false, false, false, false, false] rfl rfl (by as_aux_lemma => kernel_rfl) (fun _ _ _ h => h) (Or.inl ⟨by rfl, ?_⟩) ?_ ?_
 rotate_left
 ·intro w'
  go_simp
  with_reducible rfl
 rotate_left
 ·simp only [Act.put, lZa, lZb, lZc, i64_w, i32_w]
  rfl
 refine takeD_ (i := 25) (N := some 82) (v := ?_) (a' := ?_) #[true, true, true, true, true, true, true, true, true, true, true, true, true, true, true, true, true, true, true, true, true, true, true, true, true, true, false, false, false, false, false, false, false, false, false, false, false, false, false, false, false, false, false, false, false, false, false, false, false, false, false, false, false, false, false, false] rfl rfl (by as_aux_lemma => kernel_rfl) (fun _ _ _ h => h) (Or.inl ⟨by rfl, ?_⟩) hHeld ?_ ?_
 rotate_left
 ·intro w' hS
  have hx := cell_F0 HD5.out (Hv5.out.next hS).b5
  go_simp
  with_reducible rfl
 rotate_left
 ·simp only [Act.put, lZa, lZb, lZc, i64_w, i32_w]
  rfl
 refine pure_ (i := 26) (N := some 83) (v := ?_) (a' := ?_) #[true, true, true, true, true, true, true, true, true, true, true, true, true, true, true, true, true, true, true, true, true, true, true, true, true, true, true, false, false, false, false, false, false, false, false, false, false, false, false, false, false, false, false, false, false, false, false, false, false, false, false, false, false, false, false, false] rfl rfl (by as_aux_lemma => kernel_rfl) (fun _ _ _ h => h) (Or.inl ⟨by rfl, ?_⟩) ?_ ?_
 rotate_left
 ·intro w'
  go_simp
  with_reducible rfl
 rotate_left
 ·simp only [Act.put, lZa, lZb, lZc, i64_w, i32_w]
  rfl
 refine pure_ (i := 27) (N := some 84) (v := ?_) (a' := ?_) #[true, true, true, true, true, true, true, true, true, true, true, true, true, true, true, true, true, true, true, true, true, true, true, true, true, true, true, true, false, false, false, false, false, false, false, false, false, false, false, false, false, false, false, false, false, false, false, false, false, false, false, false, false, false, false, false] rfl rfl (by as_aux_lemma => kernel_rfl) (fun _ _ _ h => h) (Or.inl ⟨by rfl, ?_⟩) ?_ ?_
 rotate_left
 ·intro w'
  go_simp
  with_reducible rfl
 rotate_left
 ·simp only [Act.put, lZa, lZb, lZc, i64_w, i32_w]
  rfl
 refine pure_ (i := 28) (N := some 85) (v := ?_) (a' := ?_) #[true, true, true, true, true, true, true, true, true, true, true, true, true, true, true, true, true, true, true, true, true, true, true, true, true, true, true, true, true, false, false, false, false, false, false, false, false, false, false, false, false, false, false, false, false, false, false, false, false, false, false, false, false, false, false, false] rfl rfl (by as_aux_lemma => kernel_rfl) (fun _ _ _ h => h) (Or.inl ⟨by rfl, ?_⟩) ?_ ?_
 rotate_left
 ·intro w'
  go_simp
  with_reducible rfl
 rotate_left
 ·simp only [Act.put, lZa, lZb, lZc, i64_w, i32_w]
  rfl
 refine pure_ (i := 29) (N := some 86) (v := ?_) (a' := ?_) #[true, true, true, true, true, true, true, true, true, true, true, true, true, true, true, true, true, true, true, true, true, true, true, true, true, true, true, true, true, true, false, false, false, false, false, false, false, false, false, false, false, false, false, false, false, false, false, false, false, false, false, false, false, false, false, false] rfl rfl (by as_aux_lemma => kernel_rfl) (fun _ _ _ h => h) (Or.inl ⟨by rfl, ?_⟩) ?_ ?_
 rotate_left
 ·intro w'
  go_simp
  with_reducible rfl
 rotate_left
 ·simp only [Act.put, lZa, lZb, lZc, i64_w, i32_w]
  rfl
 refine pure_ (i := 30) (N := some 87) (v := ?_) (a' := ?_) #[true, true, true, true, true, true, true, true, true, true, true, true, true, true, true, true, true, true, true, true, true, true, true, true, true, true, true, true, true, true, true, false, false, false, false, false, false, false, false, false, false, false, false, false, false, false, false, false, false, false, false, false, false, false, false, false] rfl rfl (by as_aux_lemma => kernel_rfl) (fun _ _ _ h => h) (Or.inl ⟨by rfl, ?_⟩) ?_ ?_
 rotate_left
 ·intro w'
  go_simp
  with_reducible rfl
 rotate_left
 ·simp only [Act.put, lZa, lZb, lZc, i64_w, i32_w]
  rfl
 refine takeD_ (i := 31) (N := some 88) (v := ?_) (a' := ?_) #[true, true, true, true, true, true, true, true, true, true, true, true, true, true, true, true, true, true, true, true, true, true, true, true, true, true, true, true, true, true, true, true, false, false, false, false, false, false, false, false, false, false, false, false, false, false, false, false, false, false, false, false, false, false, false, false] rfl rfl (by as_aux_lemma => kernel_rfl) (fun _ _ _ h => h) (Or.inl ⟨by rfl, ?_⟩) hHeld ?_ ?_
 rotate_left
 ·intro w' hS
  have hx := cell_F1 HD5.out (Hv5.out.next hS).b5
  go_simp
  with_reducible rfl
 rotate_left
 ·simp only [Act.put, lZa, lZb, lZc, i64_w, i32_w]
  rfl
 refine pure_ (i := 32) (N := some 89) (v := ?_) (a' := ?_) #[true, true, true, true, true, true, true, true, true, true, true, true, true, true, true, true, true, true, true, true, true, true, true, true, true, true, true, true, true, true, true, true, true, false, false, false, false, false, false, false, false, false, false, false, false, false, false, false, false, false, false, false, false, false, false, false] rfl rfl (by as_aux_lemma => kernel_rfl) (fun _ _ _ h => h) (Or.inl ⟨by rfl, ?_⟩) ?_ ?_
 rotate_left
 ·intro w'
  go_simp
  with_reducible rfl
 rotate_left
 ·simp only [Act.put, lZa, lZb, lZc, i64_w, i32_w]
  rfl
 refine pure_ (i := 33) (N := some 90) (v := ?_) (a' := ?_) #[true, true, true, true, true, true, true, true, true, true, true, true, true, true, true, true, true, true, true, true, true, true, true, true, true, true, true, true, true, true, true, true, true, true, false, false, false, false, false, false, false, false, false, false, false, false, false, false, false, false, false, false, false, false, false, false] rfl rfl (by as_aux_lemma => kernel_rfl) (fun _ _ _ h => h) (Or.inl ⟨by rfl, ?_⟩) ?_ ?_
 rotate_left
 ·intro w'
  go_simp
  with_reducible rfl
 rotate_left
 ·simp only [Act.put, lZa, lZb, lZc, i64_w, i32_w]
  rfl
 refine pure_ (i := 34) (N := some 91) (v := ?_) (a' := ?_) #[true, true, true, true, true, true, true, true, true, true, true, true, true, true, true, true, true, true, true, true, true, true, true, true, true, true, true, true, true, true, true, true, true, true, true, false, false, false, false, false, false, false, false, false, false, false, false, false, false, false, false, false, false, false, false, false] rfl rfl (by as_aux_lemma => kernel_rfl) (fun _ _ _ h => h) (Or.inl ⟨by rfl, ?_⟩) ?_ ?_
 rotate_left
 ·intro w'
  go_simp
  with_reducible rfl
 rotate_left
 ·simp only [Act.put, lZa, lZb, lZc, i64_w, i32_w]
  rfl
 refine takeD_ (i := 35) (N := some 92) (v := .agg (cS r)) (a' := ?_) #[true, true, true, true, true, true, true, true, true, true, true, true, true, true, true, true, true, true, true, true, true, true, true, true, true, true, true, true, true, true, true, true, true, true, true, true, false, false, false, false, false, false, false, false, false, false, false, false, false, false, false, false, false, false, false, false] rfl rfl (by as_aux_lemma => kernel_rfl) (fun _ _ _ h => h) (Or.inl ⟨by rfl, fun w' hS => yield_load _ _ rfl _ rfl (ld_S (Hv5.out.next hS).st.br 0)⟩) hHeld ?_ ?_
 rotate_left
 ·simp only [Act.put, lZa, lZb, lZc, i64_w, i32_w]
  rfl
 refine pure_ (i := 36) (N := some 93) (v := ?_) (a' := ?_) #[true, true, true, true, true, true, true, true, true, true, true, true, true, true, true, true, true, true, true, true, true, true, true, true, true, true, true, true, true, true, true, true, true, true, true, true, true, false, false, false, false, false, false, false, false, false, false, false, false, false, false, false, false, false, false, false] rfl rfl (by as_aux_lemma => kernel_rfl) (fun _ _ _ h => h) (Or.inl ⟨by rfl, ?_⟩) ?_ ?_
 rotate_left
 ·intro w'
  go_simp
  with_reducible rfl
 rotate_left
 ·simp only [Act.put, lZa, lZb, lZc, i64_w, i32_w]
  rfl
 refine pure_ (i := 39) (N := some 96) (v := ?_) (a' := ?_) #[true, true, true, true, true, true, true, true, true, true, true, true, true, true, true, true, true, true, true, true, true, true, true, true, true, true, true, true, true, true, true, true, true, true, true, true, true, false, false, true, false, false, false, false, false, false, false, false, false, false, false, false, false, false, false, false] rfl rfl (by as_aux_lemma => kernel_rfl) (fun _ _ _ h => h) (Or.inl ⟨by rfl, ?_⟩) ?_ ?_
 rotate_left
 ·intro w'
  go_simp
  with_reducible rfl
 rotate_left
 ·simp only [Act.put, lZa, lZb, lZc, i64_w, i32_w]
  rfl
 refine takeD_ (i := 40) (N := some 97) (v := .agg (cS x.v)) (a' := ?_) #[true, true, true, true, true, true, true, true, true, true, true, true, true, true, true, true, true, true, true, true, true, true, true, true, true, true, true, true, true, true, true, true, true, true, true, true, true, false, false, true, true, false, false, false, false, false, false, false, false, false, false, false, false, false, false, false] rfl rfl (by as_aux_lemma => kernel_rfl) (fun _ _ _ h => h) (Or.inl ⟨by rfl, fun w' hS => yield_load _ _ rfl _ rfl (le_S (at_L1 (row_cells (Hv5.out.next hS).st.bx)) (Below.refl _ _) 0)⟩) hHeld ?_ ?_
 rotate_left
 ·simp only [Act.put, lZa, lZb, lZc, i64_w, i32_w]
  rfl
 refine pure_ (i := 41) (N := some 98) (v := .agg (cK q3)) (a' := ?_) #[true, true, true, true, true, true, true, true, true, true, true, true, true, true, true, true, true, true, true, true, true, true, true, true, true, true, true, true, true, true, true, true, true, true, true, true, true, false, false, true, true, true, false, false, false, false, false, false, false, false, false, false, false, false, false, false] rfl rfl (by as_aux_lemma => kernel_rfl) (fun _ _ _ h => h) (Or.inl ⟨by rfl, fun w' => yield_built 45 _ rfl (cK q3) [(0, .agg (cS x.v)), (1, .bool true), (2, .bool true)] (by simp only [List.map_toArray, List.map_cons, List.map_nil]; rfl) (by rw [HQ.out.2.2.2.2]; exact built_K ⟨x.v, true, true⟩)⟩) ?_ ?_
 rotate_left
 ·simp only [Act.put, lZa, lZb, lZc, i64_w, i32_w]
  rfl
 refine one_ (i := 37) (N := some 94) #[true, true, true, true, true, true, true, true, true, true, true, true, true, true, true, true, true, true, true, true, true, true, true, true, true, true, true, true, true, true, true, true, true, true, true, true, true, true, false, true, true, true, false, false, false, false, false, false, false, false, false, false, false, false, false, false] rfl rfl (by as_aux_lemma => kernel_rfl) (by decide) (fun K hK => ?_)
 refine goes_ Tryz.func13 (by kernel_rfl) rfl #[.slice (some ⟨g + 1, 0, none⟩) 1 1, .string ⟨#[97]⟩] (by rfl) rfl rfl (by simp only [List.map_toArray, List.map_cons, List.map_nil]; rfl) ?_
 refine (ProveOne_calls x ⟨#[97]⟩ HXS.out (by decide) (some ⟨g + 1, 0, none⟩) 1 _ (Hv5.out.next hHeld).st.words (Hv5.out.next hHeld).st.list (Nat.le_refl _) 1 (by rw [if_pos HXK.out])).mono ?_
 rintro e u4 ⟨A6, c6, C6, hC6, rfl, hp6, hb4⟩
 have HC6 := Aside0.mk (And.intro hC6 hp6)
 clear hC6 hp6
 refine ⟨_, rfl, ?_⟩
 refine hK.out _ _ (below_tr hHeld hb4 hHeld.size) (fun hHeld => ?_)
 clear hK K
 refine norm_ (a' := ?_) ?_ ?_
 rotate_left
 ·show Act.put _ (some 94) _ = _
  simp only [Act.put, lZa, lZb, lZc, i64_w, i32_w]
  rfl
 refine one_ (i := 38) (N := some 95) #[true, true, true, true, true, true, true, true, true, true, true, true, true, true, true, true, true, true, true, true, true, true, true, true, true, true, true, true, true, true, true, true, true, true, true, true, true, true, true, true, true, true, false, false, false, false, false, false, false, false, false, false, false, false, false, false] rfl rfl (by as_aux_lemma => kernel_rfl) (by decide) (fun K hK => ?_)
 refine goes_ Tryz.func16 (by kernel_rfl) rfl #[.agg (cS r), .string ⟨#[97]⟩, .agg C6] (by rfl) rfl rfl (by simp only [List.map_toArray, List.map_cons, List.map_nil]; rfl) ?_
 refine (CheckC_calls HC6.out.1 r ⟨#[97]⟩ (by decide) HXS.out _ (Hv5.out.next hHeld).st.words HC6.out.2 q3 HQC.out.2.2.2.1).mono ?_
 rintro e u5 ⟨rfl, hb5⟩
 refine ⟨_, rfl, ?_⟩
 refine hK.out _ _ (below_tr hHeld hb5 hHeld.size) (fun hHeld => ?_)
 clear hK K
 refine norm_ (a' := ?_) ?_ ?_
 rotate_left
 ·show Act.put _ (some 95) _ = _
  simp only [Act.put, lZa, lZb, lZc, i64_w, i32_w]
  rfl
 refine pure_ (i := 42) (N := some 99) (v := .bool true) (a' := ?_) #[true, true, true, true, true, true, true, true, true, true, true, true, true, true, true, true, true, true, true, true, true, true, true, true, true, true, true, true, true, true, true, true, true, true, true, true, true, true, true, true, true, true, true, false, false, false, false, false, false, false, false, false, false, false, false, false] rfl rfl (by as_aux_lemma => kernel_rfl) (fun _ _ _ h => h) (Or.inl ⟨by rfl, fun w' => yield_eql _ _ _ _ rfl _ _ rfl rfl gt_K (eqK_r w' q3)⟩) ?_ ?_
 rotate_left
 ·simp only [Act.put, lZa, lZb, lZc, i64_w, i32_w]
  rfl
 refine pure_ (i := 43) (N := some 100) (v := ?_) (a' := ?_) #[true, true, true, true, true, true, true, true, true, true, true, true, true, true, true, true, true, true, true, true, true, true, true, true, true, true, true, true, true, true, true, true, true, true, true, true, true, true, true, true, true, true, true, true, false, false, false, false, false, false, false, false, false, false, false, false] rfl rfl (by as_aux_lemma => kernel_rfl) (fun _ _ _ h => h) (Or.inl ⟨by rfl, ?_⟩) ?_ ?_
 rotate_left
 ·intro w'
  go_simp
  with_reducible rfl
 rotate_left
 ·simp only [Act.put, lZa, lZb, lZc, i64_w, i32_w]
  rfl
 refine pure_ (i := 44) (N := some 101) (v := ?_) (a' := ?_) #[true, true, true, true, true, true, true, true, true, true, true, true, true, true, true, true, true, true, true, true, true, true, true, true, true, true, true, true, true, true, true, true, true, true, true, true, true, true, true, true, true, true, true, true, true, false, false, false, false, false, false, false, false, false, false, false] rfl rfl (by as_aux_lemma => kernel_rfl) (fun _ _ _ h => h) (Or.inl ⟨by rfl, ?_⟩) ?_ ?_
 rotate_left
 ·intro w'
  go_simp
  with_reducible rfl
 rotate_left
 ·simp only [Act.put, lZa, lZb, lZc, i64_w, i32_w]
  rfl
 refine pure_ (i := 45) (N := some 102) (v := ?_) (a' := ?_) #[true, true, true, true, true, true, true, true, true, true, true, true, true, true, true, true, true, true, true, true, true, true, true, true, true, true, true, true, true, true, true, true, true, true, true, true, true, true, true, true, true, true, true, true, true, true, false, false, false, false, false, false, false, false, false, false] rfl rfl (by as_aux_lemma => kernel_rfl) (fun _ _ _ h => h) (Or.inl ⟨by rfl, ?_⟩) ?_ ?_
 rotate_left
 ·intro w'
  go_simp
  with_reducible rfl
 rotate_left
 ·simp only [Act.put, lZa, lZb, lZc, i64_w, i32_w]
  rfl
 refine one_ (i := 46) (N := some 103) #[true, true, true, true, true, true, true, true, true, true, true, true, true, true, true, true, true, true, true, true, true, true, true, true, true, true, true, true, true, true, true, true, true, true, true, true, true, true, true, true, true, true, true, true, true, true, true, false, false, false, false, false, false, false, false, false] rfl rfl (by as_aux_lemma => kernel_rfl) (by decide) (fun K hK => ?_)
 refine goes_ Tryz.func23 (by kernel_rfl) rfl #[.slice (some ⟨g + 1, 0, none⟩) 1 1] (by rfl) rfl rfl (by simp only [List.map_toArray, List.map_cons, List.map_nil]; rfl) ?_
 refine (validm_calls [x] (some ⟨g + 1, 0, none⟩) 1 _ (Hv5.out.next hHeld).st.list (Nat.le_refl _) (by simp)).mono ?_
 rw [valid_one]
 rintro e u6 ⟨rfl, hb6⟩
 refine ⟨_, rfl, ?_⟩
 refine hK.out _ _ (below_tr hHeld hb6 hHeld.size) (fun hHeld => ?_)
 clear hK K
 refine norm_ (a' := ?_) ?_ ?_
 rotate_left
 ·show Act.put _ (some 103) _ = _
  simp only [Act.put, lZa, lZb, lZc, i64_w, i32_w]
  rfl
 refine pure_ (i := 47) (N := some 104) (v := ?_) (a' := ?_) #[true, true, true, true, true, true, true, true, true, true, true, true, true, true, true, true, true, true, true, true, true, true, true, true, true, true, true, true, true, true, true, true, true, true, true, true, true, true, true, true, true, true, true, true, true, true, true, true, false, false, false, false, false, false, false, false] rfl rfl (by as_aux_lemma => kernel_rfl) (fun _ _ _ h => h) (Or.inl ⟨by rfl, ?_⟩) ?_ ?_
 rotate_left
 ·intro w'
  go_simp
  with_reducible rfl
 rotate_left
 ·simp only [Act.put, lZa, lZb, lZc, i64_w, i32_w]
  rfl
 refine pure_ (i := 48) (N := some 105) (v := ?_) (a' := ?_) #[true, true, true, true, true, true, true, true, true, true, true, true, true, true, true, true, true, true, true, true, true, true, true, true, true, true, true, true, true, true, true, true, true, true, true, true, true, true, true, true, true, true, true, true, true, true, true, true, true, false, false, false, false, false, false, false] rfl rfl (by as_aux_lemma => kernel_rfl) (fun _ _ _ h => h) (Or.inl ⟨by rfl, ?_⟩) ?_ ?_
 rotate_left
 ·intro w'
  go_simp
  with_reducible rfl
 rotate_left
 ·simp only [Act.put, lZa, lZb, lZc, i64_w, i32_w]
  rfl
 refine takeD_ (i := 49) (N := some 106) (v := .agg (cL x)) (a' := ?_) #[true, true, true, true, true, true, true, true, true, true, true, true, true, true, true, true, true, true, true, true, true, true, true, true, true, true, true, true, true, true, true, true, true, true, true, true, true, true, true, true, true, true, true, true, true, true, true, true, true, true, false, false, false, false, false, false] rfl rfl (by as_aux_lemma => kernel_rfl) (fun _ _ _ h => h) (Or.inl ⟨by rfl, fun w' hS => yield_load _ _ rfl _ rfl (ld_L (Hv5.out.next hS).st.bx 0)⟩) hHeld ?_ ?_
 rotate_left
 ·simp only [Act.put, lZa, lZb, lZc, i64_w, i32_w]
  rfl
 refine takeD_ (i := 50) (N := some 107) (v := .agg (cL x)) (a' := ?_) #[true, true, true, true, true, true, true, true, true, true, true, true, true, true, true, true, true, true, true, true, true, true, true, true, true, true, true, true, true, true, true, true, true, true, true, true, true, true, true, true, true, true, true, true, true, true, true, true, true, true, true, false, false, false, false, false] rfl rfl (by as_aux_lemma => kernel_rfl) (fun _ _ _ h => h) (Or.inl ⟨by rfl, fun w' hS => yield_load _ _ rfl _ rfl (ld_L (Hv5.out.next hS).st.bx 0)⟩) hHeld ?_ ?_
 rotate_left
 ·simp only [Act.put, lZa, lZb, lZc, i64_w, i32_w]
  rfl
 refine one_ (i := 51) (N := some 108) #[true, true, true, true, true, true, true, true, true, true, true, true, true, true, true, true, true, true, true, true, true, true, true, true, true, true, true, true, true, true, true, true, true, true, true, true, true, true, true, true, true, true, true, true, true, true, true, true, true, true, true, true, false, false, false, false] rfl rfl (by as_aux_lemma => kernel_rfl) (by decide) (fun K hK => ?_)
 refine value_ (by rfl) rfl (bs2L_run _ _ rfl x x rfl rfl _) ?_
 refine hK.out _ _ (below_tr hHeld (below_alloc (Below.refl _ _) _) hHeld.size) (fun hHeld => ?_)
 clear hK K
 refine norm_ (a' := ?_) ?_ ?_
 rotate_left
 ·show Act.put _ (some 108) _ = _
  simp only [Act.put, lZa, lZb, lZc, i64_w, i32_w]
  rfl
 refine one_ (i := 52) (N := some 109) #[true, true, true, true, true, true, true, true, true, true, true, true, true, true, true, true, true, true, true, true, true, true, true, true, true, true, true, true, true, true, true, true, true, true, true, true, true, true, true, true, true, true, true, true, true, true, true, true, true, true, true, true, true, false, false, false] rfl rfl (by as_aux_lemma => kernel_rfl) (by decide) (fun K hK => ?_)
 refine goes_ Tryz.func23 (by kernel_rfl) rfl #[.slice (some ⟨u6.heap.size, 0, none⟩) 2 2] (by rfl) rfl rfl (by simp only [List.map_toArray, List.map_cons, List.map_nil]; rfl) ?_
 refine (validm_calls [x, x] (some ⟨u6.heap.size, 0, none⟩) 2 _ (R_C (lit_L2 u6 x x)).2.2 (Nat.le_refl _) (by simp)).mono ?_
 rw [valid_two]
 rintro e u7 ⟨rfl, hb7⟩
 refine ⟨_, rfl, ?_⟩
 refine hK.out _ _ (below_tr hHeld hb7 hHeld.size) (fun hHeld => ?_)
 clear hK K
 refine norm_ (a' := ?_) ?_ ?_
 rotate_left
 ·show Act.put _ (some 109) _ = _
  simp only [Act.put, lZa, lZb, lZc, i64_w, i32_w]
  rfl
 refine pure_ (i := 53) (N := some 110) (v := ?_) (a' := ?_) #[true, true, true, true, true, true, true, true, true, true, true, true, true, true, true, true, true, true, true, true, true, true, true, true, true, true, true, true, true, true, true, true, true, true, true, true, true, true, true, true, true, true, true, true, true, true, true, true, true, true, true, true, true, true, false, false] rfl rfl (by as_aux_lemma => kernel_rfl) (fun _ _ _ h => h) (Or.inl ⟨by rfl, ?_⟩) ?_ ?_
 rotate_left
 ·intro w'
  go_simp
  with_reducible rfl
 rotate_left
 ·simp only [Act.put, lZa, lZb, lZc, i64_w, i32_w]
  rfl
 refine pure_ (i := 54) (N := some 111) (v := ?_) (a' := ?_) #[true, true, true, true, true, true, true, true, true, true, true, true, true, true, true, true, true, true, true, true, true, true, true, true, true, true, true, true, true, true, true, true, true, true, true, true, true, true, true, true, true, true, true, true, true, true, true, true, true, true, true, true, true, true, true, false] rfl rfl (by as_aux_lemma => kernel_rfl) (fun _ _ _ h => h) (Or.inl ⟨by rfl, ?_⟩) ?_ ?_
 rotate_left
 ·intro w'
  go_simp
  with_reducible rfl
 rotate_left
 ·simp only [Act.put, lZa, lZb, lZc, i64_w, i32_w]
  rfl
 have hfin : Below w.heap.size w u7 := Hv5.out.st.below.trans (hHeld.mono Hv5.out.st.below.size)
 have HFIN := Aside0.mk hfin
 clear hfin
 refine tail_ 55 (by as_aux_lemma => kernel_rfl) ?_
 simp only [List.toList_toArray, List.drop_succ_cons, List.drop_zero]
 go_wp2
 go_ret
 exact ⟨rfl, HFIN.out⟩
end Go.Proofs.YtanabbjakacgbaaGreatDoor.Sp

