/- Put together by this session's program out of: Tc Td Pe Te. -/
import Derived.Test.YtanabbjakacgbaaDoorM16
namespace Go.Proofs.YtanabbjakacgbaaDoor.Sp
open Go.RowKit Go.Proofs.YtanabbjakacgbaaDoorW.PrintWords Go.Proofs.YtanabbjakacgbaaDoorW.PrintLast Go.Proofs.YtanabbjakacgbaaDoorW.PrintMore Go.Proofs.YtanabbjakacgbaaDoor.PM
set_option linter.unusedVariables false
set_option linter.unusedSimpArgs false
set_option maxRecDepth 100000
attribute [local go_sem] Oper.semAt_some
theorem built_Lk (k : ByteArray) : Tryd.prog.built 33 [(0, .string k)] = some (cL ⟨k, zS⟩) := by
  show Instr.fill (#[(0, 1), (1, 32)][·]?) (cL zL) [(0, .string k)] = _
  have e : cL zL = #[] ++ #[.string ByteArray.empty] ++ cS zS := by rw [Array.empty_append]; rfl
  rw [e, fill_mid (#[(0, 1), (1, 32)][·]?) 0 (.string k) [] #[] #[.string ByteArray.empty] (cS zS) rfl rfl]
  rw [Array.empty_append]
  rfl
section
variable {ops : Array Oper} {rest : List Oper} {o : Oper} {a : Act} {Q : Exit → Act → World → Prop} {w : World}
theorem bld_Lk (hg : o.guard = none) (x : Operand) (ho : o.op = .build 33 #[(0, x)]) (k : ByteArray) (hx : a.eval x = .string k) (h : wpList Tryd.prog ops Q rest (a.put o.dst (.agg (cL ⟨k, zS⟩))) w) : wpList Tryd.prog ops Q (o :: rest) a w := by
  refine wpList_built hg 33 _ ho (cL ⟨k, zS⟩) ?_ h
  have e : (Array.map (fun x : Nat × Operand => (x.1, a.eval x.2)) #[(0, x)]).toList = [(0, .string k)] := by simp [hx]
  rw [e]
  exact built_Lk k
end
def Ln (w0 : World) (v : Value) (n : Nat) (w : World) : Prop := ∃ acc : List Lf, kL.R 33 w w0.heap.size (fun _ => True) v acc ∧ Srt acc ∧ acc.length ≤ n ∧ Below w0.heap.size w0 w
set_option maxHeartbeats 4000000 in
theorem sorted_calls (a b : List ByteArray) (A Ab : Option Addr) (ca cb : Nat) (w : World) (hra : Kd.string.R 9 w 0 (fun _ => True) (.slice A a.length ca) a) (hrb : Kd.string.R 9 w 0 (fun _ => True) (.slice Ab b.length cb) b) (ha : a.length ≤ 20000) (hb : b.length ≤ 20000) :
    Calls Tryd.prog 77 #[.slice A a.length ca, .slice Ab b.length cb] w fun e w' => ∃ A' c' L, e = .returned (.slice A' (List.length L) c') ∧ Kd.string.R 9 w' w.heap.size (fun _ => True) (.slice A' L.length c') L ∧ L.length ≤ a.length + b.length ∧ Below w.heap.size w w' := by
  have HS := Aside0.mk (And.intro hra hrb)
  clear hra hrb
  go_enter Tryd.func77, Tryd.ntmps77
  go_wp2_with (first
    | (refine bs0_L (wa := w) rfl rfl rfl w.heap.size (Below.refl _ _) (Nat.le_refl _) ?_; intro v0 w0 hr0 hb0 hs0; have H0 : Aside0 (Ln w v0 0 w0) := Aside0.mk ⟨[], hr0, List.Pairwise.nil, Nat.le_refl _, hb0⟩; clear hr0 hb0 hs0))
  go_loopw [5, 6] (fun v i wr => ∃ n : Nat, i = .int .i64 (n : Int) ∧ n ≤ a.length ∧ Aside0 (Ln w v n wr)) (fun _ i _ => a.length - (intOf i).toNat)
  case atStart => exact ⟨0, rfl, by omega, H0⟩
  case round =>
    clear H0
    obtain ⟨n, rfl, hn, HR⟩ := hrel
    obtain ⟨acc, hR⟩ := HR.out
    obtain ⟨A5, c7, e5⟩ := Kd.R_slice hR.1
    subst e5
    have HQ := Aside0.mk hR
    clear HR hR
    have hal := HQ.out.2.2.1
    by_cases c5 : n < a.length
    · have c5b : (n : Int) < (a.length : Int) := by omega
      obtain ⟨y, hy⟩ : ∃ y, y = a.getD n ByteArray.empty := ⟨_, rfl⟩
      obtain ⟨gA, eA, hat⟩ := str_at HS.out.1 n c5
      subst eA
      rw [← hy] at hat
      have c5c := eq_true c5b
      have c5d : ((0 : Int) ≤ (n : Int)) = True := eq_true (by omega)
      have hx := (HQ.out.2.2.2.cell (World.block_lt_of_cell? _ _ hat)).trans hat
      clear hat hy
      go_wp2_with (first
        | (refine bld_Lk rfl _ rfl y rfl ?_)
        | (go_at_call 29; (with_reducible refine (put4_calls acc ⟨y, zS⟩ A5 c7 wr (R_C HQ.out.1).2.2 (R_C HQ.out.1).2.1 (by omega)).mono ?_); rintro e w4 ⟨v4, rfl, hv4, hb4⟩; have H4 : Aside0 (Ln w v4 (n + 1) w4) := Aside0.mk ⟨_, Kd.R_lower hv4 HQ.out.2.2.2.size, HQ.out.2.1.put _, Nat.le_trans (putOf_len' _ HQ.out.2.1) (by omega), below_tr HQ.out.2.2.2 hb4 HQ.out.2.2.2.size⟩; clear hv4 hb4))
      exact ⟨⟨n + 1, by simp, by omega, H4⟩, by simp [intOf]; omega⟩
    · obtain rfl : n = a.length := by omega
      have H0 : Aside0 (Ln w (.slice A5 acc.length c7) (a.length + 0) wr) := Aside0.mk ⟨acc, HQ.out⟩
      clear HQ
      go_wp2
      go_loopw [5, 7] (fun v i wq => ∃ m : Nat, i = .int .i64 (m : Int) ∧ m ≤ b.length ∧ Aside0 (Ln w v (a.length + m) wq)) (fun _ i _ => b.length - (intOf i).toNat)
      case atStart => exact ⟨0, rfl, by omega, H0⟩
      case round =>
        clear H0 hal
        obtain ⟨m, rfl, hm, HR⟩ := hrel
        obtain ⟨acc, hR⟩ := HR.out
        obtain ⟨A6, c8, e6⟩ := Kd.R_slice hR.1
        subst e6
        have HQ := Aside0.mk hR
        clear HR hR
        have hal := HQ.out.2.2.1
        by_cases c6 : m < b.length
        · have c5b : (m : Int) < (b.length : Int) := by omega
          obtain ⟨y, hy⟩ : ∃ y, y = b.getD m ByteArray.empty := ⟨_, rfl⟩
          obtain ⟨gA, eA, hat⟩ := str_at HS.out.2 m c6
          subst eA
          rw [← hy] at hat
          have c5c := eq_true c5b
          have c5d : ((0 : Int) ≤ (m : Int)) = True := eq_true (by omega)
          have hx := (HQ.out.2.2.2.cell (World.block_lt_of_cell? _ _ hat)).trans hat
          clear hat hy
          go_wp2_with (first
            | (refine bld_Lk rfl _ rfl y rfl ?_)
            | (go_at_call 29; (with_reducible refine (put4_calls acc ⟨y, zS⟩ A6 c8 _ (R_C HQ.out.1).2.2 (R_C HQ.out.1).2.1 (by omega)).mono ?_); rintro e w4 ⟨v4, rfl, hv4, hb4⟩; have H4 : Aside0 (Ln w v4 (a.length + (m + 1)) w4) := Aside0.mk ⟨_, Kd.R_lower hv4 HQ.out.2.2.2.size, HQ.out.2.1.put _, Nat.le_trans (putOf_len' _ HQ.out.2.1) (by omega), below_tr HQ.out.2.2.2 hb4 HQ.out.2.2.2.size⟩; clear hv4 hb4))
          exact ⟨⟨m + 1, by simp, by omega, H4⟩, by simp [intOf]; omega⟩
        · obtain rfl : m = b.length := by omega
          obtain ⟨L, hL⟩ : ∃ L, acc = L := ⟨_, rfl⟩
          subst hL
          have HR1 := Aside0.mk (And.intro HQ.out.1 HQ.out.2.2.2)
          obtain ⟨wr0, rfl⟩ : ∃ W, W = wr := ⟨_, rfl⟩
          clear HQ
          go_wp2_with (first
            | (refine bs0_Str (wa := wr0) rfl rfl rfl wr0.heap.size (Below.refl _ _) (Nat.le_refl _) ?_; intro v8 w8 hr8 hb8 hs8; have H8 := Aside0.mk (And.intro hr8 hb8); clear hr8 hb8 hs8))
          go_loopw [8, 9] (fun v i wz => ∃ n : Nat, i = .int .i64 (n : Int) ∧ n ≤ acc.length ∧ Aside0 (Kd.string.R 9 wz wr0.heap.size (fun _ => True) v ((acc.take n).map (·.k)) ∧ Below wr0.heap.size wr0 wz)) (fun _ i _ => acc.length - (intOf i).toNat)
          case atStart => exact ⟨0, rfl, by omega, H8⟩
          case round =>
            clear H8
            obtain ⟨n, rfl, hn, HR⟩ := hrel
            by_cases c6 : n < acc.length
            · have c5b : (n : Int) < (acc.length : Int) := by omega
              obtain ⟨y, hy⟩ : ∃ y, y = acc.getD n zL := ⟨_, rfl⟩
              obtain ⟨ad, eA, hat⟩ := at_flat (R_C HR1.out.1).2.2 zL (n : Int) (by omega) c5b
              subst eA
              rw [show ((n : Int).toNat) = n by omega, ← hy] at hat
              have c5c := eq_true c5b
              have c5d : ((0 : Int) ≤ (n : Int)) = True := eq_true (by omega)
              have hx := (HR.out.2.cell (World.block_lt_of_cell? _ _ (at_L0 hat))).trans (at_L0 hat)
              have HSU := Aside0.mk (show (acc.take (n + 1)).map (·.k) = (acc.take n).map (·.k) ++ [y.k] by rw [take_succ' zL c6, List.map_append, ← hy]; rfl)
              have hnl : ((acc.take n).map (·.k)).length ≤ 1000000 := by rw [List.length_map, List.length_take]; omega
              clear hat hy
              go_wp2_with (first
                | (refine bs1_Str rfl _ rfl y.k rfl ?_)
                | (refine app_Str (wa := wr0) rfl (.tmp 44) (.tmp 50) rfl u8 _ y.k rfl rfl wr0.heap.size HR.out.1 HR.out.2 HR.out.2.size hnl ?_; intro v1 w1 hr1 hb1 hs1; have H1 := Aside0.mk (And.intro hr1 hb1); clear hr1 hb1 hs1))
              exact ⟨⟨n + 1, by simp, by omega, by rw [HSU.out]; exact H1⟩, by simp [intOf]; omega⟩
            · obtain rfl : n = acc.length := by omega
              obtain ⟨A9, c9, e9⟩ := Kd.R_slice HR.out.1
              subst e9
              have H1 := HR.out
              rw [List.take_length] at H1
              have hlen : ((acc.take acc.length).map (·.k)).length = (acc.map (·.k)).length := by rw [List.take_length]
              have HQ := Aside0.mk H1
              clear H1
              go_wp2
              go_ret
              exact ⟨A9, c9, acc.map (·.k), by rw [List.length_map]; rfl, Kd.R_lower HQ.out.1 HR1.out.2.size, by rw [List.length_map]; exact hal, below_tr HR1.out.2 HQ.out.2 HR1.out.2.size⟩
end Go.Proofs.YtanabbjakacgbaaDoor.Sp
namespace Go.Proofs.YtanabbjakacgbaaDoor.Sp
open Go.RowKit Go.Proofs.YtanabbjakacgbaaDoorW.PrintWords Go.Proofs.YtanabbjakacgbaaDoorW.PrintLast Go.Proofs.YtanabbjakacgbaaDoorW.PrintMore Go.Proofs.YtanabbjakacgbaaDoor.PM
set_option linter.unusedVariables false
set_option linter.unusedSimpArgs false
set_option maxRecDepth 100000
attribute [local go_sem] Oper.semAt_some
def lvs (a : List It) : List Lf := a.map (·.x)
def hidF : Nat → List It → List It → Nat → Bool
  | 0, a, b, d => if hashOf a d = hashOf b d then decide (0 < (differOf (lvs a) (lvs b)).length) else false
  | k + 1, a, b, d => if hashOf a d = hashOf b d then decide (0 < (differOf (lvs a) (lvs b)).length) else if endsOf a d = true ∨ endsOf b d = true then false else
      (hidF k (halfOf a d 0) (halfOf b d 0) (d + 1) || hidF k (halfOf a d 1) (halfOf b d 1) (d + 1))
theorem hidF_same {k d : Nat} {a b : List It} (h : hashOf a d = hashOf b d) : hidF k a b d = decide (0 < (differOf (lvs a) (lvs b)).length) := by
  cases k with
  | zero => rw [hidF, if_pos h]
  | succ k => rw [hidF, if_pos h]
theorem hidF_end {k d : Nat} {a b : List It} (h : ¬ hashOf a d = hashOf b d) (he : endsOf a d = true ∨ endsOf b d = true) : hidF k a b d = false := by
  cases k with
  | zero => rw [hidF, if_neg h]
  | succ k => rw [hidF, if_neg h, if_pos he]
theorem hidF_go {d : Nat} {a b : List It} (h : ¬ hashOf a d = hashOf b d) (h1 : endsOf a d = false) (h2 : endsOf b d = false) : hidF (256 - d) a b d = (hidF (256 - (d + 1)) (halfOf a d 0) (halfOf b d 0) (d + 1) || hidF (256 - (d + 1)) (halfOf a d 1) (halfOf b d 1) (d + 1)) := by
  have hd := (ends_lt h1).1
  rw [show 256 - d = (256 - (d + 1)) + 1 by omega, hidF, if_neg h, if_neg (by rw [h1, h2]; simp)]
theorem built_F12 (h : Bool) : Tryd.prog.built 56 [(1, .int .i64 1), (2, .bool h)] = some (cF (.slice none 0 0) 1 h) := by cases h <;> kernel_rfl
theorem built_F3 (A : Option Addr) (m c : Nat) (n : Int) (h : Bool) : Tryd.prog.built 56 [(0, .slice A m c), (1, .int .i64 n), (2, .bool h)] = some (cF (.slice A m c) n h) :=
  fill_three (#[(0, 1), (1, 1), (2, 1)][·]?) (.slice A m c) (.int .i64 n) (.bool h) #[.slice none 0 0] #[.int .i64 0] #[.bool false] rfl rfl rfl rfl rfl rfl
section
variable {ops : Array Oper} {rest : List Oper} {o : Oper} {a : Act} {Q : Exit → Act → World → Prop} {w : World}
theorem bld_F12 (hg : o.guard = none) (y : Operand) (ho : o.op = .build 56 #[(1, .const (.int .i64 1)), (2, y)]) (h : Bool) (hy : a.eval y = .bool h) (hh : wpList Tryd.prog ops Q rest (a.put o.dst (.agg (cF (.slice none 0 0) 1 h))) w) : wpList Tryd.prog ops Q (o :: rest) a w := by
  refine wpList_built hg 56 _ ho (cF (.slice none 0 0) 1 h) ?_ hh
  have e : (Array.map (fun x : Nat × Operand => (x.1, a.eval x.2)) #[(1, .const (.int .i64 1)), (2, y)]).toList = [(1, .int .i64 1), (2, .bool h)] := by
    have hc : a.eval (.const (.int .i64 1)) = .int .i64 1 := rfl
    simp [hc, hy]
  rw [e]
  exact built_F12 h
end
def RdPost (w0 : World) (n : Nat) (h : Bool) (e : Ending) (w' : World) : Prop := ∃ (A' : Option Addr) (c' : Nat) (L : List ByteArray) (N : Int), e = .returned (.agg (cF (.slice A' L.length c') N h)) ∧ Kd.string.R 9 w' w0.heap.size (fun _ => True) (.slice A' L.length c') L ∧ L.length ≤ n ∧ Below w0.heap.size w0 w'
def RdIs (d : Nat) : Prop := ∀ (a b : List It) (Aa Ab : Option Addr) (ca cb : Nat) (w : World), SmI a → SmI b → a.length ≤ 5000 → b.length ≤ 5000 → kI.C w Aa a.length a → kI.C w Ab b.length b → a.length ≤ ca → b.length ≤ cb →
  Calls Tryd.prog 56 #[.slice Aa a.length ca, .slice Ab b.length cb, .int .i64 (d : Int)] w (RdPost w (a.length + b.length) (hidF (256 - d) a b d))
theorem leavesR_calls (l : List It) (m : List Lf) (hm : lvs l = m) (A : Option Addr) (c : Nat) (w : World) (hr : kI.C w A l.length l) (hc : l.length ≤ c) (hl : l.length ≤ 5000) :
    Calls Tryd.prog 53 #[.slice A l.length c] w fun e w' => ∃ A' c', e = .returned (.slice A' m.length c') ∧ kL.R 33 w' 0 (fun _ => True) (.slice A' m.length c') m ∧ Below w.heap.size w w' := by
  subst hm
  refine (leaves_calls l A c w hr hc (by omega)).mono ?_
  rintro e w' ⟨v, rfl, h1, h2⟩
  obtain ⟨A', c', rfl⟩ := Kd.R_slice h1
  exact ⟨A', c', rfl, Kd.R_lower h1 (Nat.zero_le _), h2⟩
theorem DifferK_calls (l m : List Lf) (A A2 : Option Addr) (c c2 : Nat) (w : World) (hrl : kL.R 33 w 0 (fun _ => True) (.slice A l.length c) l) (hrm : kL.R 33 w 0 (fun _ => True) (.slice A2 m.length c2) m) (hl : l.length ≤ 5000) (hm : m.length ≤ 5000) (d : List ByteArray) (hd : differOf l m = d) :
    Calls Tryd.prog 27 #[.slice A l.length c, .slice A2 m.length c2] w fun e w' => ∃ A' c', e = .returned (.slice A' d.length c') ∧ Kd.string.R 9 w' w.heap.size (fun _ => True) (.slice A' d.length c') d ∧ Below w.heap.size w w' := by
  have h := Differ_calls l m A A2 c c2 w (R_C hrl).2.2 (R_C hrm).2.2 (R_C hrl).2.1 (R_C hrm).2.1 hl hm
  rw [hd] at h
  refine h.mono ?_
  rintro e w' ⟨v, rfl, h1, h2⟩
  obtain ⟨A', c', rfl⟩ := Kd.R_slice h1
  exact ⟨A', c', rfl, h1, h2⟩
theorem dif_bound (a b : List Lf) : (differOf a b).length ≤ a.length + b.length := by
  have h1 := (Srt.dif a b _ (Srt.dif b a [] List.Pairwise.nil).1).2
  have h2 := (Srt.dif b a [] List.Pairwise.nil).2
  rw [differOf, List.length_map, difLs]
  simp only [List.length_nil] at h2
  omega
theorem R_none (w : World) (B : Nat) : Kd.string.R 9 w B (fun _ => True) (.slice none 0 0) [] := by
  refine ⟨fun _ _ => trivial, [], ?_, Reps.none _ _⟩
  exact World.ownsRow_nil (e := 9) (size := 1) w B
theorem cF_one {v : Value} {n : Int} {h : Bool} (hv : v.oneCell' = true) : (cF v n h).all (·.oneCell') = true := by
  refine all_one fun u hu => ?_
  simp [cF] at hu
  rcases hu with rfl | rfl | rfl
  · exact hv
  · rfl
  · rfl
set_option maxHeartbeats 4000000 in
theorem rd_step (d : Nat) (hd : d ≤ 256) (ih : d < 256 → RdIs (d + 1)) : RdIs d := by
  intro a b Aa Ab ca cb w hsa hsb hla hlb hra hrb hca hcb
  have hu56 := Tryd.underlying56
  obtain ⟨g, hg⟩ : ∃ g, g = w.heap.size := ⟨_, rfl⟩
  obtain ⟨Z, hz56⟩ : ∃ Z, Z = cF (.slice none 0 0) 0 false := ⟨_, rfl⟩
  obtain ⟨wb, hwb⟩ : ∃ wb, wb = w.alloc (.cells Z 56) := ⟨_, rfl⟩
  have h0 : wb.heap[g]? = some (.cells Z 56 (0, 0)) := by rw [hwb]; exact h_new hg
  have hb : Below w.heap.size w wb := by rw [hwb]; exact below_alloc (Below.refl _ _) _
  have hs : wb.heap.size = g + 1 := by rw [hwb, size_alloc, hg]
  have HB := Aside0.mk (⟨h0, hb, hs, Kd.C_below hra hb, Kd.C_below hrb hb⟩ : _ ∧ _ ∧ _ ∧ _ ∧ _)
  have HWB := Aside0.mk hwb
  have HG := Aside0.mk hg
  have HZ := Aside0.mk (And.intro (show ∀ w, (zeroValue 56).run Tryd.prog w = .ok (.agg Z) w by rw [hz56]; exact zero56) (show Z.size = 3 by rw [hz56]; rfl))
  have HL := Aside0.mk (⟨hsa, hsb, hla, hlb, hca, hcb⟩ : _ ∧ _ ∧ _ ∧ _ ∧ _ ∧ _)
  have HIH := Aside0.mk ih
  obtain ⟨T, hT⟩ : ∃ T, hidF (256 - d) a b d = T := ⟨_, rfl⟩
  obtain ⟨p, hp⟩ : ∃ p, hashOf a d = p := ⟨_, rfl⟩
  obtain ⟨q, hq⟩ : ∃ q, hashOf b d = q := ⟨_, rfl⟩
  have HH := Aside0.mk (And.intro hp hq)
  have HT := Aside0.mk hT
  rw [hT]
  obtain ⟨la, hla0⟩ : ∃ x, lvs a = x := ⟨_, rfl⟩
  obtain ⟨lb, hlb0⟩ : ∃ x, lvs b = x := ⟨_, rfl⟩
  obtain ⟨df, hdf⟩ : ∃ df, differOf la lb = df := ⟨_, rfl⟩
  have hdl : df.length ≤ a.length + b.length := by
    rw [← hdf]
    have h1 := dif_bound la lb
    have h2 : la.length = a.length := by rw [← hla0, lvs, List.length_map]
    have h3 : lb.length = b.length := by rw [← hlb0, lvs, List.length_map]
    omega
  have HDF := Aside0.mk (⟨hdf, hla0, hlb0, by rw [← hla0, lvs, List.length_map]; exact hla, by rw [← hlb0, lvs, List.length_map]; exact hlb⟩ : differOf la lb = df ∧ lvs a = la ∧ lvs b = lb ∧ la.length ≤ 5000 ∧ lb.length ≤ 5000)
  clear hsa hsb hca hcb ih hra hrb hwb hb h0 hs hg hz56 hT hdf hla0 hlb0
  have hwd : 257 > d := by omega
  by_cases hpq : p = q
  · have hh : hashOf a d = hashOf b d := by rw [hp, hq, hpq]
    have HT2 := Aside0.mk (show T = decide (0 < df.length) by rw [← HT.out, hidF_same hh, HDF.out.2.1, HDF.out.2.2.1, HDF.out.1])
    subst hpq
    clear hp hq
    by_cases hz : 0 < df.length
    · have hp1 : (0 : Int) < (df.length : Int) := by omega
      have HT3 := Aside0.mk (show T = true by rw [HT2.out]; exact decide_eq_true hz)
      go_enter Tryd.func56, Tryd.ntmps56
      go_wp2_with (first
        | ((with_reducible refine gate_dst (N := 6) rfl ?_); (refine wpList_allocz rfl 56 Z rfl HZ.out.1 ?_); rw [← HWB.out, ← HG.out])
        | (go_at_call 46; (with_reducible refine (hash4_calls a d hd Aa ca wb HL.out.1 HB.out.2.2.2.1 HL.out.2.2.2.2.1).mono ?_); rw [HH.out.1]; rintro e w1 ⟨rfl, hb1⟩; have H1 := Aside0.mk (⟨hb1, Kd.C_below HB.out.2.2.2.1 hb1, Kd.C_below HB.out.2.2.2.2 hb1⟩ : _ ∧ _ ∧ _); clear hb1)
        | (go_at_call 46; (with_reducible refine (hash4_calls b d hd Ab cb w1 HL.out.2.1 H1.out.2.2 HL.out.2.2.2.2.2).mono ?_); rw [HH.out.2]; rintro e w2 ⟨rfl, hb2⟩; have H2 := Aside0.mk (⟨below_tr H1.out.1 hb2 H1.out.1.size, Kd.C_below H1.out.2.1 hb2, Kd.C_below H1.out.2.2 hb2⟩ : _ ∧ _ ∧ _); clear hb2)
        | ((with_reducible refine gate_dst (N := 15) rfl ?_); refine wpList_eql rfl _ _ _ _ rfl _ _ rfl rfl gt_S _ (fun w => eqS_r w p) ?_)
        | (go_at_call 53; (with_reducible refine (leavesR_calls a la HDF.out.2.1 Aa ca w2 H2.out.2.1 HL.out.2.2.2.2.1 hla).mono ?_); rintro e w3 ⟨A3, c3, rfl, hr3, hb3⟩; have H3 := Aside0.mk (⟨below_tr H2.out.1 hb3 H2.out.1.size, Kd.C_below H2.out.2.2 hb3, hr3⟩ : _ ∧ _ ∧ _); clear hb3 hr3)
        | (go_at_call 53; (with_reducible refine (leavesR_calls b lb HDF.out.2.2.1 Ab cb w3 H3.out.2.1 HL.out.2.2.2.2.2 hlb).mono ?_); rintro e w4 ⟨A4, c4, rfl, hr4, hb4⟩; have H4 := Aside0.mk (⟨below_tr H3.out.1 hb4 H3.out.1.size, Kd.R_below H3.out.2.2 hb4, hr4⟩ : _ ∧ _ ∧ _); clear hb4 hr4)
        | (go_at_call 27; go_loud ((with_reducible refine (DifferK_calls la lb A3 A4 c3 c4 w4 H4.out.2.1 H4.out.2.2 HDF.out.2.2.2.1 HDF.out.2.2.2.2 df HDF.out.1).mono ?_); rintro e w5 ⟨A5, c5, rfl, hr5, hb5⟩; have H5 := Aside0.mk (⟨below_tr H4.out.1 hb5 H4.out.1.size, Kd.R_lower hr5 H4.out.1.size⟩ : Below wb.heap.size wb w5 ∧ Kd.string.R 9 w5 wb.heap.size (fun _ => True) (.slice A5 df.length c5) df); clear hb5 hr5))
        | (refine bld_F12 rfl _ rfl true rfl ?_)
        | ((with_reducible refine gate_store (t := 56) rfl ?_); go_loud (refine wpList_store_row rfl 56 (.tmp 6) (.tmp 23) rfl g (cF (.slice none 0 0) 1 true) rfl rfl 56 Z ((H5.out.1.block _ (by have := HB.out.2.2.1; omega)).trans HB.out.1) (by kernel_rfl) HZ.out.2 (cF_one rfl) ?_)))
      refine bodyPost_ret (v := .agg (cF (.slice none 0 0) 1 true)) ?_ rfl ⟨none, 0, [], 1, by rw [HT3.out]; rfl, R_none _ _, Nat.zero_le _, below_setRow (HB.out.2.1.trans (H5.out.1.mono (by have := HB.out.2.1.size; omega))) (by have := HG.out; omega)⟩
      exact results_cell_row rfl _ _ g 56 _ (0, 0) _ rfl (setRow_heap _ _ _ _ _ _ ((H5.out.1.block _ (by have := HB.out.2.2.1; omega)).trans HB.out.1)) hu56 rfl (by kernel_rfl)
    · have hp1 : ¬ (0 : Int) < (df.length : Int) := by omega
      have HT3 := Aside0.mk (show T = false by rw [HT2.out]; exact decide_eq_false hz)
      go_enter Tryd.func56, Tryd.ntmps56
      go_wp2_with (first
        | ((with_reducible refine gate_dst (N := 6) rfl ?_); (refine wpList_allocz rfl 56 Z rfl HZ.out.1 ?_); rw [← HWB.out, ← HG.out])
        | (go_at_call 46; (with_reducible refine (hash4_calls a d hd Aa ca wb HL.out.1 HB.out.2.2.2.1 HL.out.2.2.2.2.1).mono ?_); rw [HH.out.1]; rintro e w1 ⟨rfl, hb1⟩; have H1 := Aside0.mk (⟨hb1, Kd.C_below HB.out.2.2.2.1 hb1, Kd.C_below HB.out.2.2.2.2 hb1⟩ : _ ∧ _ ∧ _); clear hb1)
        | (go_at_call 46; (with_reducible refine (hash4_calls b d hd Ab cb w1 HL.out.2.1 H1.out.2.2 HL.out.2.2.2.2.2).mono ?_); rw [HH.out.2]; rintro e w2 ⟨rfl, hb2⟩; have H2 := Aside0.mk (⟨below_tr H1.out.1 hb2 H1.out.1.size, Kd.C_below H1.out.2.1 hb2, Kd.C_below H1.out.2.2 hb2⟩ : _ ∧ _ ∧ _); clear hb2)
        | ((with_reducible refine gate_dst (N := 15) rfl ?_); refine wpList_eql rfl _ _ _ _ rfl _ _ rfl rfl gt_S _ (fun w => eqS_r w p) ?_)
        | (go_at_call 53; (with_reducible refine (leavesR_calls a la HDF.out.2.1 Aa ca w2 H2.out.2.1 HL.out.2.2.2.2.1 hla).mono ?_); rintro e w3 ⟨A3, c3, rfl, hr3, hb3⟩; have H3 := Aside0.mk (⟨below_tr H2.out.1 hb3 H2.out.1.size, Kd.C_below H2.out.2.2 hb3, hr3⟩ : _ ∧ _ ∧ _); clear hb3 hr3)
        | (go_at_call 53; (with_reducible refine (leavesR_calls b lb HDF.out.2.2.1 Ab cb w3 H3.out.2.1 HL.out.2.2.2.2.2 hlb).mono ?_); rintro e w4 ⟨A4, c4, rfl, hr4, hb4⟩; have H4 := Aside0.mk (⟨below_tr H3.out.1 hb4 H3.out.1.size, Kd.R_below H3.out.2.2 hb4, hr4⟩ : _ ∧ _ ∧ _); clear hb4 hr4)
        | (go_at_call 27; go_loud ((with_reducible refine (DifferK_calls la lb A3 A4 c3 c4 w4 H4.out.2.1 H4.out.2.2 HDF.out.2.2.2.1 HDF.out.2.2.2.2 df HDF.out.1).mono ?_); rintro e w5 ⟨A5, c5, rfl, hr5, hb5⟩; have H5 := Aside0.mk (⟨below_tr H4.out.1 hb5 H4.out.1.size, Kd.R_lower hr5 H4.out.1.size⟩ : Below wb.heap.size wb w5 ∧ Kd.string.R 9 w5 wb.heap.size (fun _ => True) (.slice A5 df.length c5) df); clear hb5 hr5))
        | (refine bld_F12 rfl _ rfl false rfl ?_)
        | ((with_reducible refine gate_store (t := 56) rfl ?_); go_loud (refine wpList_store_row rfl 56 (.tmp 6) (.tmp 23) rfl g (cF (.slice none 0 0) 1 false) rfl rfl 56 Z ((H5.out.1.block _ (by have := HB.out.2.2.1; omega)).trans HB.out.1) (by kernel_rfl) HZ.out.2 (cF_one rfl) ?_)))
      refine bodyPost_ret (v := .agg (cF (.slice none 0 0) 1 false)) ?_ rfl ⟨none, 0, [], 1, by rw [HT3.out]; rfl, R_none _ _, Nat.zero_le _, below_setRow (HB.out.2.1.trans (H5.out.1.mono (by have := HB.out.2.1.size; omega))) (by have := HG.out; omega)⟩
      exact results_cell_row rfl _ _ g 56 _ (0, 0) _ rfl (setRow_heap _ _ _ _ _ _ ((H5.out.1.block _ (by have := HB.out.2.2.1; omega)).trans HB.out.1)) hu56 rfl (by kernel_rfl)
  · have hh : ¬ hashOf a d = hashOf b d := by rw [hp, hq]; exact hpq
    have hde : decide (p = q) = false := decide_eq_false hpq
    by_cases hea : endsOf a d = true ∨ endsOf b d = true
    · have HT3 := Aside0.mk (show T = false by rw [← HT.out, hidF_end hh hea])
      clear hp hq
      by_cases hA : endsOf a d = true
      · go_enter Tryd.func56, Tryd.ntmps56
        go_wp2_with (first
            | ((with_reducible refine gate_dst (N := 6) rfl ?_); (refine wpList_allocz rfl 56 Z rfl HZ.out.1 ?_); rw [← HWB.out, ← HG.out])
            | (go_at_call 46; (with_reducible refine (hash4_calls a d hd Aa ca wb HL.out.1 HB.out.2.2.2.1 HL.out.2.2.2.2.1).mono ?_); rw [HH.out.1]; rintro e w1 ⟨rfl, hb1⟩; have H1 := Aside0.mk (⟨hb1, Kd.C_below HB.out.2.2.2.1 hb1, Kd.C_below HB.out.2.2.2.2 hb1⟩ : _ ∧ _ ∧ _); clear hb1)
            | (go_at_call 46; (with_reducible refine (hash4_calls b d hd Ab cb w1 HL.out.2.1 H1.out.2.2 HL.out.2.2.2.2.2).mono ?_); rw [HH.out.2]; rintro e w2 ⟨rfl, hb2⟩; have H2 := Aside0.mk (⟨below_tr H1.out.1 hb2 H1.out.1.size, Kd.C_below H1.out.2.1 hb2, Kd.C_below H1.out.2.2 hb2⟩ : _ ∧ _ ∧ _); clear hb2)
            | ((with_reducible refine gate_dst (N := 15) rfl ?_); refine wpList_eql rfl _ _ _ _ rfl _ _ rfl rfl gt_S _ (fun w => eqS w p q) ?_; rw [hde])
            | (go_at_call 44; (with_reducible refine (ends4_calls a d hd Aa ca w2).mono ?_); rw [hA]; rintro e w9 ⟨rfl, e9⟩; rw [e9]; clear e9)
            | (go_at_call 53; (with_reducible refine (leavesR_calls a la HDF.out.2.1 Aa ca w2 H2.out.2.1 HL.out.2.2.2.2.1 hla).mono ?_); rintro e w3 ⟨A3, c3, rfl, hr3, hb3⟩; have H3 := Aside0.mk (⟨below_tr H2.out.1 hb3 H2.out.1.size, Kd.C_below H2.out.2.2 hb3, hr3⟩ : _ ∧ _ ∧ _); clear hb3 hr3)
            | (go_at_call 53; (with_reducible refine (leavesR_calls b lb HDF.out.2.2.1 Ab cb w3 H3.out.2.1 HL.out.2.2.2.2.2 hlb).mono ?_); rintro e w4 ⟨A4, c4, rfl, hr4, hb4⟩; have H4 := Aside0.mk (⟨below_tr H3.out.1 hb4 H3.out.1.size, Kd.R_below H3.out.2.2 hb4, hr4⟩ : _ ∧ _ ∧ _); clear hb4 hr4)
            | (go_at_call 27; go_loud ((with_reducible refine (DifferK_calls la lb A3 A4 c3 c4 w4 H4.out.2.1 H4.out.2.2 HDF.out.2.2.2.1 HDF.out.2.2.2.2 df HDF.out.1).mono ?_); rintro e w5 ⟨A5, c5, rfl, hr5, hb5⟩; have H5 := Aside0.mk (⟨below_tr H4.out.1 hb5 H4.out.1.size, Kd.R_lower hr5 H4.out.1.size⟩ : Below wb.heap.size wb w5 ∧ Kd.string.R 9 w5 wb.heap.size (fun _ => True) (.slice A5 df.length c5) df); clear hb5 hr5))
            | (refine bld_F rfl _ _ rfl A5 df.length c5 1 rfl rfl ?_)
            | ((with_reducible refine gate_store (t := 56) rfl ?_); go_loud (refine wpList_store_row rfl 56 (.tmp 6) (.tmp 37) rfl g (cF (.slice A5 df.length c5) 1 false) rfl rfl 56 Z ((H5.out.1.block _ (by have := HB.out.2.2.1; omega)).trans HB.out.1) (by kernel_rfl) HZ.out.2 (cF_one rfl) ?_)))
        refine bodyPost_ret (v := .agg (cF (.slice A5 df.length c5) 1 false)) ?_ rfl ⟨A5, c5, df, 1, by rw [HT3.out], Kd.R_lower (R_setRow H5.out.2 (by have := HB.out.2.2.1; omega) _) HB.out.2.1.size, hdl, below_setRow (HB.out.2.1.trans (H5.out.1.mono (by have := HB.out.2.1.size; omega))) (by have := HG.out; omega)⟩
        exact results_cell_row rfl _ _ g 56 _ (0, 0) _ rfl (setRow_heap _ _ _ _ _ _ ((H5.out.1.block _ (by have := HB.out.2.2.1; omega)).trans HB.out.1)) hu56 rfl (by kernel_rfl)
      · have hA : endsOf a d = false := by simpa using hA
        have hB : endsOf b d = true := by rcases hea with h | h; exact absurd h (by rw [hA]; simp); exact h
        go_enter Tryd.func56, Tryd.ntmps56
        go_wp2_with (first
            | ((with_reducible refine gate_dst (N := 6) rfl ?_); (refine wpList_allocz rfl 56 Z rfl HZ.out.1 ?_); rw [← HWB.out, ← HG.out])
            | (go_at_call 46; (with_reducible refine (hash4_calls a d hd Aa ca wb HL.out.1 HB.out.2.2.2.1 HL.out.2.2.2.2.1).mono ?_); rw [HH.out.1]; rintro e w1 ⟨rfl, hb1⟩; have H1 := Aside0.mk (⟨hb1, Kd.C_below HB.out.2.2.2.1 hb1, Kd.C_below HB.out.2.2.2.2 hb1⟩ : _ ∧ _ ∧ _); clear hb1)
            | (go_at_call 46; (with_reducible refine (hash4_calls b d hd Ab cb w1 HL.out.2.1 H1.out.2.2 HL.out.2.2.2.2.2).mono ?_); rw [HH.out.2]; rintro e w2 ⟨rfl, hb2⟩; have H2 := Aside0.mk (⟨below_tr H1.out.1 hb2 H1.out.1.size, Kd.C_below H1.out.2.1 hb2, Kd.C_below H1.out.2.2 hb2⟩ : _ ∧ _ ∧ _); clear hb2)
            | ((with_reducible refine gate_dst (N := 15) rfl ?_); refine wpList_eql rfl _ _ _ _ rfl _ _ rfl rfl gt_S _ (fun w => eqS w p q) ?_; rw [hde])
            | (go_at_call 44; (with_reducible refine (ends4_calls a d hd Aa ca w2).mono ?_); rw [hA]; rintro e w9 ⟨rfl, e9⟩; rw [e9]; clear e9)
            | (go_at_call 44; (with_reducible refine (ends4_calls b d hd Ab cb w2).mono ?_); rw [hB]; rintro e w9 ⟨rfl, e9⟩; rw [e9]; clear e9)
            | (go_at_call 53; (with_reducible refine (leavesR_calls a la HDF.out.2.1 Aa ca w2 H2.out.2.1 HL.out.2.2.2.2.1 hla).mono ?_); rintro e w3 ⟨A3, c3, rfl, hr3, hb3⟩; have H3 := Aside0.mk (⟨below_tr H2.out.1 hb3 H2.out.1.size, Kd.C_below H2.out.2.2 hb3, hr3⟩ : _ ∧ _ ∧ _); clear hb3 hr3)
            | (go_at_call 53; (with_reducible refine (leavesR_calls b lb HDF.out.2.2.1 Ab cb w3 H3.out.2.1 HL.out.2.2.2.2.2 hlb).mono ?_); rintro e w4 ⟨A4, c4, rfl, hr4, hb4⟩; have H4 := Aside0.mk (⟨below_tr H3.out.1 hb4 H3.out.1.size, Kd.R_below H3.out.2.2 hb4, hr4⟩ : _ ∧ _ ∧ _); clear hb4 hr4)
            | (go_at_call 27; go_loud ((with_reducible refine (DifferK_calls la lb A3 A4 c3 c4 w4 H4.out.2.1 H4.out.2.2 HDF.out.2.2.2.1 HDF.out.2.2.2.2 df HDF.out.1).mono ?_); rintro e w5 ⟨A5, c5, rfl, hr5, hb5⟩; have H5 := Aside0.mk (⟨below_tr H4.out.1 hb5 H4.out.1.size, Kd.R_lower hr5 H4.out.1.size⟩ : Below wb.heap.size wb w5 ∧ Kd.string.R 9 w5 wb.heap.size (fun _ => True) (.slice A5 df.length c5) df); clear hb5 hr5))
            | (refine bld_F rfl _ _ rfl A5 df.length c5 1 rfl rfl ?_)
            | ((with_reducible refine gate_store (t := 56) rfl ?_); go_loud (refine wpList_store_row rfl 56 (.tmp 6) (.tmp 37) rfl g (cF (.slice A5 df.length c5) 1 false) rfl rfl 56 Z ((H5.out.1.block _ (by have := HB.out.2.2.1; omega)).trans HB.out.1) (by kernel_rfl) HZ.out.2 (cF_one rfl) ?_)))
        refine bodyPost_ret (v := .agg (cF (.slice A5 df.length c5) 1 false)) ?_ rfl ⟨A5, c5, df, 1, by rw [HT3.out], Kd.R_lower (R_setRow H5.out.2 (by have := HB.out.2.2.1; omega) _) HB.out.2.1.size, hdl, below_setRow (HB.out.2.1.trans (H5.out.1.mono (by have := HB.out.2.1.size; omega))) (by have := HG.out; omega)⟩
        exact results_cell_row rfl _ _ g 56 _ (0, 0) _ rfl (setRow_heap _ _ _ _ _ _ ((H5.out.1.block _ (by have := HB.out.2.2.1; omega)).trans HB.out.1)) hu56 rfl (by kernel_rfl)
    · have hA : endsOf a d = false := by
        cases h : endsOf a d with
        | false => rfl
        | true => exact absurd (.inl h) hea
      have hB : endsOf b d = false := by
        cases h : endsOf b d with
        | false => rfl
        | true => exact absurd (.inr h) hea
      obtain ⟨hd1, _⟩ := ends_lt hA
      obtain ⟨a0, ha0⟩ : ∃ x, halfOf a d 0 = x := ⟨_, rfl⟩
      obtain ⟨a1, ha1⟩ : ∃ x, halfOf a d 1 = x := ⟨_, rfl⟩
      obtain ⟨b0, hb0⟩ : ∃ x, halfOf b d 0 = x := ⟨_, rfl⟩
      obtain ⟨b1, hb1⟩ : ∃ x, halfOf b d 1 = x := ⟨_, rfl⟩
      obtain ⟨t0, ht0⟩ : ∃ x, hidF (256 - (d + 1)) a0 b0 (d + 1) = x := ⟨_, rfl⟩
      obtain ⟨t1, ht1⟩ : ∃ x, hidF (256 - (d + 1)) a1 b1 (d + 1) = x := ⟨_, rfl⟩
      have HT3 := Aside0.mk (show T = (t0 || t1) by rw [← HT.out, hidF_go hh hA hB, ha0, ha1, hb0, hb1, ht0, ht1])
      have hsa := half_sum a d
      have hsb := half_sum b d
      rw [ha0, ha1] at hsa
      rw [hb0, hb1] at hsb
      have hi := HIH.out hd1
      have HC0 := Aside0.mk (fun (Aa Ab : Option Addr) (ca cb : Nat) (w : World) h1 h2 h3 h4 => by
        have h := hi a0 b0 Aa Ab ca cb w (by rw [← ha0]; exact HL.out.1.half d 0) (by rw [← hb0]; exact HL.out.2.1.half d 0) (by omega) (by omega) h1 h2 h3 h4
        rw [ht0, show ((d + 1 : Nat) : Int) = (d : Int) + 1 by omega] at h
        exact h : ∀ (Aa Ab : Option Addr) (ca cb : Nat) (w : World), kI.C w Aa a0.length a0 → kI.C w Ab b0.length b0 → a0.length ≤ ca → b0.length ≤ cb → Calls Tryd.prog 56 #[.slice Aa a0.length ca, .slice Ab b0.length cb, .int .i64 ((d : Int) + 1)] w (RdPost w (a0.length + b0.length) t0))
      have HC1 := Aside0.mk (fun (Aa Ab : Option Addr) (ca cb : Nat) (w : World) h1 h2 h3 h4 => by
        have h := hi a1 b1 Aa Ab ca cb w (by rw [← ha1]; exact HL.out.1.half d 1) (by rw [← hb1]; exact HL.out.2.1.half d 1) (by omega) (by omega) h1 h2 h3 h4
        rw [ht1, show ((d + 1 : Nat) : Int) = (d : Int) + 1 by omega] at h
        exact h : ∀ (Aa Ab : Option Addr) (ca cb : Nat) (w : World), kI.C w Aa a1.length a1 → kI.C w Ab b1.length b1 → a1.length ≤ ca → b1.length ≤ cb → Calls Tryd.prog 56 #[.slice Aa a1.length ca, .slice Ab b1.length cb, .int .i64 ((d : Int) + 1)] w (RdPost w (a1.length + b1.length) t1))
      have HE := Aside0.mk (⟨ha0, ha1, hb0, hb1⟩ : _ ∧ _ ∧ _ ∧ _)
      clear hp hq hi ha0 ha1 hb0 hb1 ht0 ht1 hh hea
      have hla2 : a.length ≤ 100000 := by omega
      have hlb2 : b.length ≤ 100000 := by omega
      go_enter Tryd.func56, Tryd.ntmps56
      go_wp2_with (first
          | ((with_reducible refine gate_dst (N := 6) rfl ?_); (refine wpList_allocz rfl 56 Z rfl HZ.out.1 ?_); rw [← HWB.out, ← HG.out])
          | (go_at_call 46; (with_reducible refine (hash4_calls a d hd Aa ca wb HL.out.1 HB.out.2.2.2.1 HL.out.2.2.2.2.1).mono ?_); rw [HH.out.1]; rintro e w1 ⟨rfl, hb1⟩; have H1 := Aside0.mk (⟨hb1, Kd.C_below HB.out.2.2.2.1 hb1, Kd.C_below HB.out.2.2.2.2 hb1⟩ : _ ∧ _ ∧ _); clear hb1)
          | (go_at_call 46; (with_reducible refine (hash4_calls b d hd Ab cb w1 HL.out.2.1 H1.out.2.2 HL.out.2.2.2.2.2).mono ?_); rw [HH.out.2]; rintro e w2 ⟨rfl, hb2⟩; have H2 := Aside0.mk (⟨below_tr H1.out.1 hb2 H1.out.1.size, Kd.C_below H1.out.2.1 hb2, Kd.C_below H1.out.2.2 hb2⟩ : _ ∧ _ ∧ _); clear hb2)
          | ((with_reducible refine gate_dst (N := 15) rfl ?_); refine wpList_eql rfl _ _ _ _ rfl _ _ rfl rfl gt_S _ (fun w => eqS w p q) ?_; rw [hde])
          | (go_at_call 44; (with_reducible refine (ends4_calls a d hd Aa ca w2).mono ?_); rw [hA]; rintro e w9 ⟨rfl, e9⟩; rw [e9]; clear e9)
          | (go_at_call 44; (with_reducible refine (ends4_calls b d hd Ab cb w2).mono ?_); rw [hB]; rintro e w9 ⟨rfl, e9⟩; rw [e9]; clear e9)
          | (go_at_call 47; (with_reducible refine (half4_calls a d hd1 0 Aa ca w2 H2.out.2.1 HL.out.2.2.2.2.1 hla2).mono ?_); rw [HE.out.1]; rintro e w3 ⟨v3, rfl, hv3, hb3⟩; obtain ⟨A3, c3, rfl, hc3, hr3⟩ := Kd.R_reads hv3; have H3 := Aside0.mk (⟨below_tr H2.out.1 hb3 H2.out.1.size, Kd.C_below H2.out.2.1 hb3, Kd.C_below H2.out.2.2 hb3, hr3⟩ : _ ∧ _ ∧ _ ∧ _); clear hr3 hb3 hv3)
          | (go_at_call 47; (with_reducible refine (half4_calls b d hd1 0 Ab cb w3 H3.out.2.2.1 HL.out.2.2.2.2.2 hlb2).mono ?_); rw [HE.out.2.2.1]; rintro e w4 ⟨v4, rfl, hv4, hb4⟩; obtain ⟨A4, c4, rfl, hc4, hr4⟩ := Kd.R_reads hv4; have H4 := Aside0.mk (⟨below_tr H3.out.1 hb4 H3.out.1.size, Kd.C_below H3.out.2.1 hb4, Kd.C_below H3.out.2.2.1 hb4, Kd.C_below H3.out.2.2.2 hb4, hr4⟩ : _ ∧ _ ∧ _ ∧ _ ∧ _); clear hr4 hb4 hv4)
          | (go_at_call 56; (with_reducible refine (HC0.out A3 A4 c3 c4 w4 H4.out.2.2.2.1 H4.out.2.2.2.2 hc3 hc4).mono ?_); rintro e w5 ⟨A5, c5, L5, N5, rfl, hr5, hl5, hb5⟩; have H5 := Aside0.mk (⟨below_tr H4.out.1 hb5 H4.out.1.size, Kd.C_below H4.out.2.1 hb5, Kd.C_below H4.out.2.2.1 hb5, Kd.R_lower hr5 H4.out.1.size⟩ : Below wb.heap.size wb w5 ∧ _ ∧ _ ∧ Kd.string.R 9 w5 wb.heap.size (fun _ => True) (.slice A5 L5.length c5) L5); clear hr5 hb5)
          | (go_at_call 47; (with_reducible refine (half4_calls a d hd1 1 Aa ca w5 H5.out.2.1 HL.out.2.2.2.2.1 hla2).mono ?_); rw [HE.out.2.1]; rintro e w6 ⟨v6, rfl, hv6, hb6⟩; obtain ⟨A6, c6, rfl, hc6, hr6⟩ := Kd.R_reads hv6; have H6 := Aside0.mk (⟨below_tr H5.out.1 hb6 H5.out.1.size, Kd.C_below H5.out.2.2.1 hb6, Kd.R_below H5.out.2.2.2 hb6, hr6⟩ : _ ∧ _ ∧ _ ∧ _); clear hr6 hb6 hv6)
          | (go_at_call 47; (with_reducible refine (half4_calls b d hd1 1 Ab cb w6 H6.out.2.1 HL.out.2.2.2.2.2 hlb2).mono ?_); rw [HE.out.2.2.2]; rintro e w7 ⟨v7, rfl, hv7, hb7⟩; obtain ⟨A7, c7, rfl, hc7, hr7⟩ := Kd.R_reads hv7; have H7 := Aside0.mk (⟨below_tr H6.out.1 hb7 H6.out.1.size, Kd.R_below H6.out.2.2.1 hb7, Kd.C_below H6.out.2.2.2 hb7, hr7⟩ : _ ∧ _ ∧ _ ∧ _); clear hr7 hb7 hv7)
          | (go_at_call 56; (with_reducible refine (HC1.out A6 A7 c6 c7 w7 H7.out.2.2.1 H7.out.2.2.2 hc6 hc7).mono ?_); rintro e w8 ⟨A8, c8, L8, N8, rfl, hr8, hl8, hb8⟩; have H8 := Aside0.mk (⟨below_tr H7.out.1 hb8 H7.out.1.size, Kd.R_below H7.out.2.1 hb8, Kd.R_lower hr8 H7.out.1.size⟩ : Below wb.heap.size wb w8 ∧ _ ∧ Kd.string.R 9 w8 wb.heap.size (fun _ => True) (.slice A8 L8.length c8) L8); clear hr8 hb8; obtain ⟨D5, hD5⟩ : ∃ D, D = cF (.slice A5 L5.length c5) N5 t0 := ⟨_, rfl⟩; obtain ⟨D8, hD8⟩ : ∃ D, D = cF (.slice A8 L8.length c8) N8 t1 := ⟨_, rfl⟩; rw [← hD5, ← hD8]; have HD := Aside0.mk (And.intro hD5 hD8); obtain ⟨n5, hn5⟩ : ∃ n, n = w8.heap.size := ⟨_, rfl⟩; obtain ⟨ux, hux⟩ : ∃ wx, (w8.alloc (.cells Z 56)).alloc (.cells Z 56) = wx := ⟨_, rfl⟩; obtain ⟨uy, huy⟩ : ∃ wy, (ux.setRow n5 D5).setRow (n5 + 1) D8 = wy := ⟨_, rfl⟩; have HU5 := Aside0.mk (two_boxes hn5 hux huy); have HUX := Aside0.mk hux; have HUY := Aside0.mk huy; have HN5 := Aside0.mk hn5; clear hux huy hn5 hD5 hD8)
          | ((with_reducible refine gate_dst (N := 7) rfl ?_); (refine wpList_allocz rfl 56 Z rfl HZ.out.1 ?_))
          | ((with_reducible refine gate_dst (N := 8) rfl ?_); (refine wpList_allocz rfl 56 Z rfl HZ.out.1 ?_); rw [size_alloc, ← HN5.out])
          | ((with_reducible refine gate_store (t := 56) (p := 7) rfl ?_); rw [HUX.out]; (refine wpList_store_row rfl 56 (.tmp 7) (.tmp 46) rfl n5 D5 rfl rfl 56 Z HU5.out.1 (by rw [HD.out.1]; kernel_rfl) (by rw [HD.out.1, HZ.out.2]; rfl) (by rw [HD.out.1]; exact cF_one rfl) ?_))
          | ((with_reducible refine gate_store (t := 56) (p := 8) rfl ?_); (refine wpList_store_row rfl 56 (.tmp 8) (.tmp 55) rfl (n5 + 1) D8 rfl rfl 56 Z HU5.out.2.1 (by rw [HD.out.2]; kernel_rfl) (by rw [HD.out.2, HZ.out.2]; rfl) (by rw [HD.out.2]; exact cF_one rfl) ?_); (refine at_world (w' := uy) HUY.out ?_); have HY := Aside0.mk (⟨below_tr H8.out.1 HU5.out.2.2.2.2 H8.out.1.size, Kd.R_below H8.out.2.1 HU5.out.2.2.2.2, Kd.R_below H8.out.2.2 HU5.out.2.2.2.2, HU5.out.2.2.1, HU5.out.2.2.2.1⟩ : _ ∧ _ ∧ _ ∧ _ ∧ _)))
      have hcc : ∀ W, Below uy.heap.size uy W → W.cell? ⟨n5, 0, none⟩ = some (.slice A5 L5.length c5) ∧ W.cell? ⟨n5, 1, none⟩ = some (.int .i64 N5) ∧ W.cell? ⟨n5, 2, none⟩ = some (.bool t0) ∧ W.cell? ⟨n5 + 1, 0, none⟩ = some (.slice A8 L8.length c8) ∧ W.cell? ⟨n5 + 1, 1, none⟩ = some (.int .i64 N8) ∧ W.cell? ⟨n5 + 1, 2, none⟩ = some (.bool t1) := fun W hb => by
        have h5 := at_next HY.out.2.2.2.1 hb
        have h8 := at_next HY.out.2.2.2.2 hb
        exact ⟨cell_F0 HD.out.1 h5, cell_F1 HD.out.1 h5, (cell_of_row W n5 2 _ _ _ h5).trans (by rw [HD.out.1]; rfl), cell_F0 HD.out.2 h8, cell_F1 HD.out.2 h8, (cell_of_row W (n5 + 1) 2 _ _ _ h8).trans (by rw [HD.out.2]; rfl)⟩
      have HCC := Aside0.mk hcc
      clear hcc
      cases t0 with
      | true =>
        refine start_ (n := 19) (S := fun w' => Below uy.heap.size uy w') (ds := [18]) #[false, false, false, false, false, false, false, false, false, false, false, false, false, false, false, false, false, false, false] (by kernel_rfl) rfl rfl (Below.refl _ _).drew (fun hHeld => ?_)
        refine pure_ (i := 0) (N := some 56) (v := ?_) (a' := ?_) #[true, false, false, false, false, false, false, false, false, false, false, false, false, false, false, false, false, false, false] rfl rfl (by kernel_rfl) (fun _ _ _ h => h) (Or.inl ⟨by rfl, ?_⟩) ?_ ?_
        rotate_left
        · intro w'
          go_simp
          with_reducible rfl
        rotate_left
        · simp only [Act.put, List.setIfInBounds_toArray, List.set_cons_zero, List.set_cons_succ, i64_w, i32_w]
          rfl
        refine take_ (i := 1) (N := some 57) (v := ?_) (a' := ?_) #[true, true, false, false, false, false, false, false, false, false, false, false, false, false, false, false, false, false, false] rfl rfl (by kernel_rfl) (fun _ _ _ h => h) (Or.inl ⟨by rfl, ?_⟩) hHeld ?_ ?_
        rotate_left
        · intro w' hS
          have hx := (HCC.out w' hS).1
          go_simp
          with_reducible rfl
        rotate_left
        · simp only [Act.put, List.setIfInBounds_toArray, List.set_cons_zero, List.set_cons_succ, i64_w, i32_w]
          rfl
        refine pure_ (i := 2) (N := some 58) (v := ?_) (a' := ?_) #[true, true, true, false, false, false, false, false, false, false, false, false, false, false, false, false, false, false, false] rfl rfl (by kernel_rfl) (fun _ _ _ h => h) (Or.inl ⟨by rfl, ?_⟩) ?_ ?_
        rotate_left
        · intro w'
          go_simp
          with_reducible rfl
        rotate_left
        · simp only [Act.put, List.setIfInBounds_toArray, List.set_cons_zero, List.set_cons_succ, i64_w, i32_w]
          rfl
        refine take_ (i := 3) (N := some 59) (v := ?_) (a' := ?_) #[true, true, true, true, false, false, false, false, false, false, false, false, false, false, false, false, false, false, false] rfl rfl (by kernel_rfl) (fun _ _ _ h => h) (Or.inl ⟨by rfl, ?_⟩) hHeld ?_ ?_
        rotate_left
        · intro w' hS
          have hx := (HCC.out w' hS).2.2.2.1
          go_simp
          with_reducible rfl
        rotate_left
        · simp only [Act.put, List.setIfInBounds_toArray, List.set_cons_zero, List.set_cons_succ, i64_w, i32_w]
          rfl
        refine pure_ (i := 5) (N := some 61) (v := ?_) (a' := ?_) #[true, true, true, true, false, true, false, false, false, false, false, false, false, false, false, false, false, false, false] rfl rfl (by kernel_rfl) (fun _ _ _ h => h) (Or.inl ⟨by rfl, ?_⟩) ?_ ?_
        rotate_left
        · intro w'
          go_simp
          with_reducible rfl
        rotate_left
        · simp only [Act.put, List.setIfInBounds_toArray, List.set_cons_zero, List.set_cons_succ, i64_w, i32_w]
          rfl
        refine take_ (i := 6) (N := some 62) (v := ?_) (a' := ?_) #[true, true, true, true, false, true, true, false, false, false, false, false, false, false, false, false, false, false, false] rfl rfl (by kernel_rfl) (fun _ _ _ h => h) (Or.inl ⟨by rfl, ?_⟩) hHeld ?_ ?_
        rotate_left
        · intro w' hS
          have hx := (HCC.out w' hS).2.1
          go_simp
          with_reducible rfl
        rotate_left
        · simp only [Act.put, List.setIfInBounds_toArray, List.set_cons_zero, List.set_cons_succ, i64_w, i32_w]
          rfl
        refine pure_ (i := 7) (N := some 63) (v := ?_) (a' := ?_) #[true, true, true, true, false, true, true, true, false, false, false, false, false, false, false, false, false, false, false] rfl rfl (by kernel_rfl) (fun _ _ _ h => h) (Or.inl ⟨by rfl, ?_⟩) ?_ ?_
        rotate_left
        · intro w'
          go_simp
          with_reducible rfl
        rotate_left
        · simp only [Act.put, List.setIfInBounds_toArray, List.set_cons_zero, List.set_cons_succ, i64_w, i32_w]
          rfl
        refine pure_ (i := 8) (N := some 64) (v := ?_) (a' := ?_) #[true, true, true, true, false, true, true, true, true, false, false, false, false, false, false, false, false, false, false] rfl rfl (by kernel_rfl) (fun _ _ _ h => h) (Or.inl ⟨by rfl, ?_⟩) ?_ ?_
        rotate_left
        · intro w'
          go_simp
          with_reducible rfl
        rotate_left
        · simp only [Act.put, List.setIfInBounds_toArray, List.set_cons_zero, List.set_cons_succ, i64_w, i32_w]
          rfl
        refine take_ (i := 9) (N := some 65) (v := ?_) (a' := ?_) #[true, true, true, true, false, true, true, true, true, true, false, false, false, false, false, false, false, false, false] rfl rfl (by kernel_rfl) (fun _ _ _ h => h) (Or.inl ⟨by rfl, ?_⟩) hHeld ?_ ?_
        rotate_left
        · intro w' hS
          have hx := (HCC.out w' hS).2.2.2.2.1
          go_simp
          with_reducible rfl
        rotate_left
        · simp only [Act.put, List.setIfInBounds_toArray, List.set_cons_zero, List.set_cons_succ, i64_w, i32_w]
          rfl
        refine pure_ (i := 10) (N := some 66) (v := ?_) (a' := ?_) #[true, true, true, true, false, true, true, true, true, true, true, false, false, false, false, false, false, false, false] rfl rfl (by kernel_rfl) (fun _ _ _ h => h) (Or.inl ⟨by rfl, ?_⟩) ?_ ?_
        rotate_left
        · intro w'
          go_simp
          with_reducible rfl
        rotate_left
        · simp only [Act.put, List.setIfInBounds_toArray, List.set_cons_zero, List.set_cons_succ, i64_w, i32_w]
          rfl
        refine pure_ (i := 11) (N := some 67) (v := ?_) (a' := ?_) #[true, true, true, true, false, true, true, true, true, true, true, true, false, false, false, false, false, false, false] rfl rfl (by kernel_rfl) (fun _ _ _ h => h) (Or.inl ⟨by rfl, ?_⟩) ?_ ?_
        rotate_left
        · intro w'
          go_simp
          with_reducible rfl
        rotate_left
        · simp only [Act.put, List.setIfInBounds_toArray, List.set_cons_zero, List.set_cons_succ, i64_w, i32_w]
          rfl
        refine take_ (i := 12) (N := some 68) (v := ?_) (a' := ?_) #[true, true, true, true, false, true, true, true, true, true, true, true, true, false, false, false, false, false, false] rfl rfl (by kernel_rfl) (fun _ _ _ h => h) (Or.inl ⟨by rfl, ?_⟩) hHeld ?_ ?_
        rotate_left
        · intro w' hS
          have hx := (HCC.out w' hS).2.2.1
          go_simp
          with_reducible rfl
        rotate_left
        · simp only [Act.put, List.setIfInBounds_toArray, List.set_cons_zero, List.set_cons_succ, i64_w, i32_w]
          rfl
        refine one_ (i := 4) (N := some 60) #[true, true, true, true, true, true, true, true, true, true, true, true, true, false, false, false, false, false, false] rfl rfl (by kernel_rfl) (by decide) (fun K hK => ?_)
        refine goes_ Tryd.func77 (by kernel_rfl) rfl #[.slice A5 L5.length c5, .slice A8 L8.length c8] (by rfl) rfl rfl (by simp only [List.map_toArray, List.map_cons, List.map_nil]; rfl) ?_
        refine (sorted_calls L5 L8 A5 A8 c5 c8 _ (Kd.R_lower (Kd.R_below HY.out.2.1 hHeld) (Nat.zero_le _)) (Kd.R_lower (Kd.R_below HY.out.2.2.1 hHeld) (Nat.zero_le _)) (by omega) (by omega)).mono ?_
        rintro e wt ⟨A9, c9, L9, rfl, hr9, hl9, hb9⟩
        have H9 := Aside0.mk (And.intro (Kd.R_lower hr9 hHeld.size) hl9)
        clear hr9 hl9
        refine ⟨_, rfl, ?_⟩
        refine hK.out _ _ (below_tr hHeld hb9 hHeld.size) (fun hHeld => ?_)
        clear hK K
        refine norm_ (a' := ?_) ?_ ?_
        rotate_left
        · show Act.put _ (some 60) _ = _
          simp only [Act.put, List.setIfInBounds_toArray, List.set_cons_zero, List.set_cons_succ, i64_w, i32_w]
          rfl
        refine pure_ (i := 13) (N := some 69) (v := ?_) (a' := ?_) #[true, true, true, true, true, true, true, true, true, true, true, true, true, true, false, false, false, false, false] rfl rfl (by kernel_rfl) (fun _ _ _ h => h) (Or.inl ⟨by rfl, ?_⟩) ?_ ?_
        rotate_left
        · intro w'
          go_simp
          with_reducible rfl
        rotate_left
        · simp only [Act.put, List.setIfInBounds_toArray, List.set_cons_zero, List.set_cons_succ, i64_w, i32_w]
          rfl
        refine pure_ (i := 14) (N := some 70) (v := undef) (a' := ?_) #[true, true, true, true, true, true, true, true, true, true, true, true, true, true, true, false, false, false, false] rfl rfl (by kernel_rfl) (fun _ _ _ h => h) (Or.inr ⟨by rfl, rfl⟩) ?_ ?_
        rotate_left
        · simp only [Act.put, List.setIfInBounds_toArray, List.set_cons_zero, List.set_cons_succ, i64_w, i32_w]
          rfl
        refine pure_ (i := 15) (N := some 71) (v := undef) (a' := ?_) #[true, true, true, true, true, true, true, true, true, true, true, true, true, true, true, true, false, false, false] rfl rfl (by kernel_rfl) (fun _ _ _ h => h) (Or.inr ⟨by rfl, rfl⟩) ?_ ?_
        rotate_left
        · simp only [Act.put, List.setIfInBounds_toArray, List.set_cons_zero, List.set_cons_succ, i64_w, i32_w]
          rfl
        refine pure_ (i := 16) (N := some 72) (v := ?_) (a' := ?_) #[true, true, true, true, true, true, true, true, true, true, true, true, true, true, true, true, true, false, false] rfl rfl (by kernel_rfl) (fun _ _ _ h => h) (Or.inl ⟨by rfl, ?_⟩) ?_ ?_
        rotate_left
        · intro w'
          go_simp
          with_reducible rfl
        rotate_left
        · simp only [Act.put, List.setIfInBounds_toArray, List.set_cons_zero, List.set_cons_succ, i64_w, i32_w]
          rfl
        refine pure_ (i := 17) (N := some 73) (v := .agg (cF (.slice A9 L9.length c9) (wrap64 (wrap64 (1 + N5) + N8)) true)) (a' := ?_) #[true, true, true, true, true, true, true, true, true, true, true, true, true, true, true, true, true, true, false] rfl rfl (by kernel_rfl) (fun _ _ _ h => h) (Or.inl ⟨by rfl, fun w' => yield_built 56 _ rfl (cF (.slice A9 L9.length c9) (wrap64 (wrap64 (1 + N5) + N8)) true) [(0, .slice A9 L9.length c9), (1, .int .i64 (wrap64 (wrap64 (1 + N5) + N8))), (2, .bool true)] (by simp only [List.map_toArray, List.map_cons, List.map_nil]; rfl) (built_F3 _ _ _ _ _)⟩) ?_ ?_
        rotate_left
        · simp only [Act.put, List.setIfInBounds_toArray, List.set_cons_zero, List.set_cons_succ, i64_w, i32_w]
          rfl
        have HF := Aside0.mk (And.intro (below_tr HY.out.1 hHeld HY.out.1.size) (Kd.R_lower H9.out.1 HY.out.1.size))
        have hlen := H9.out.2
        clear hHeld hb9
        refine tail_ 18 (by kernel_rfl) ?_
        simp only [List.toList_toArray, List.drop_succ_cons, List.drop_zero]
        go_wp2_with (first
          | ((with_reducible refine gate_store (t := 56) rfl ?_); (refine wpList_store_row rfl 56 (.tmp 6) (.tmp 73) rfl g (cF (.slice A9 L9.length c9) (wrap64 (wrap64 (1 + N5) + N8)) true) rfl rfl 56 Z ((HF.out.1.block _ (by have := HB.out.2.2.1; omega)).trans HB.out.1) (by kernel_rfl) HZ.out.2 (cF_one rfl) ?_)))
        refine bodyPost_ret (v := .agg (cF (.slice A9 L9.length c9) (wrap64 (wrap64 (1 + N5) + N8)) true)) ?_ rfl ⟨A9, c9, L9, (wrap64 (wrap64 (1 + N5) + N8)), by rw [HT3.out]; rfl, Kd.R_lower (R_setRow HF.out.2 (by have := HB.out.2.2.1; omega) _) HB.out.2.1.size, by omega, below_setRow (HB.out.2.1.trans (HF.out.1.mono (by have := HB.out.2.1.size; omega))) (by have := HG.out; omega)⟩
        exact results_cell_row rfl _ _ g 56 _ (0, 0) _ rfl (setRow_heap _ _ _ _ _ _ ((HF.out.1.block _ (by have := HB.out.2.2.1; omega)).trans HB.out.1)) hu56 rfl (by kernel_rfl)
      | false =>
        refine start_ (n := 19) (S := fun w' => Below uy.heap.size uy w') (ds := [18]) #[false, false, false, false, false, false, false, false, false, false, false, false, false, false, false, false, false, false, false] (by kernel_rfl) rfl rfl (Below.refl _ _).drew (fun hHeld => ?_)
        refine pure_ (i := 0) (N := some 56) (v := ?_) (a' := ?_) #[true, false, false, false, false, false, false, false, false, false, false, false, false, false, false, false, false, false, false] rfl rfl (by kernel_rfl) (fun _ _ _ h => h) (Or.inl ⟨by rfl, ?_⟩) ?_ ?_
        rotate_left
        · intro w'
          go_simp
          with_reducible rfl
        rotate_left
        · simp only [Act.put, List.setIfInBounds_toArray, List.set_cons_zero, List.set_cons_succ, i64_w, i32_w]
          rfl
        refine take_ (i := 1) (N := some 57) (v := ?_) (a' := ?_) #[true, true, false, false, false, false, false, false, false, false, false, false, false, false, false, false, false, false, false] rfl rfl (by kernel_rfl) (fun _ _ _ h => h) (Or.inl ⟨by rfl, ?_⟩) hHeld ?_ ?_
        rotate_left
        · intro w' hS
          have hx := (HCC.out w' hS).1
          go_simp
          with_reducible rfl
        rotate_left
        · simp only [Act.put, List.setIfInBounds_toArray, List.set_cons_zero, List.set_cons_succ, i64_w, i32_w]
          rfl
        refine pure_ (i := 2) (N := some 58) (v := ?_) (a' := ?_) #[true, true, true, false, false, false, false, false, false, false, false, false, false, false, false, false, false, false, false] rfl rfl (by kernel_rfl) (fun _ _ _ h => h) (Or.inl ⟨by rfl, ?_⟩) ?_ ?_
        rotate_left
        · intro w'
          go_simp
          with_reducible rfl
        rotate_left
        · simp only [Act.put, List.setIfInBounds_toArray, List.set_cons_zero, List.set_cons_succ, i64_w, i32_w]
          rfl
        refine take_ (i := 3) (N := some 59) (v := ?_) (a' := ?_) #[true, true, true, true, false, false, false, false, false, false, false, false, false, false, false, false, false, false, false] rfl rfl (by kernel_rfl) (fun _ _ _ h => h) (Or.inl ⟨by rfl, ?_⟩) hHeld ?_ ?_
        rotate_left
        · intro w' hS
          have hx := (HCC.out w' hS).2.2.2.1
          go_simp
          with_reducible rfl
        rotate_left
        · simp only [Act.put, List.setIfInBounds_toArray, List.set_cons_zero, List.set_cons_succ, i64_w, i32_w]
          rfl
        refine pure_ (i := 5) (N := some 61) (v := ?_) (a' := ?_) #[true, true, true, true, false, true, false, false, false, false, false, false, false, false, false, false, false, false, false] rfl rfl (by kernel_rfl) (fun _ _ _ h => h) (Or.inl ⟨by rfl, ?_⟩) ?_ ?_
        rotate_left
        · intro w'
          go_simp
          with_reducible rfl
        rotate_left
        · simp only [Act.put, List.setIfInBounds_toArray, List.set_cons_zero, List.set_cons_succ, i64_w, i32_w]
          rfl
        refine take_ (i := 6) (N := some 62) (v := ?_) (a' := ?_) #[true, true, true, true, false, true, true, false, false, false, false, false, false, false, false, false, false, false, false] rfl rfl (by kernel_rfl) (fun _ _ _ h => h) (Or.inl ⟨by rfl, ?_⟩) hHeld ?_ ?_
        rotate_left
        · intro w' hS
          have hx := (HCC.out w' hS).2.1
          go_simp
          with_reducible rfl
        rotate_left
        · simp only [Act.put, List.setIfInBounds_toArray, List.set_cons_zero, List.set_cons_succ, i64_w, i32_w]
          rfl
        refine pure_ (i := 7) (N := some 63) (v := ?_) (a' := ?_) #[true, true, true, true, false, true, true, true, false, false, false, false, false, false, false, false, false, false, false] rfl rfl (by kernel_rfl) (fun _ _ _ h => h) (Or.inl ⟨by rfl, ?_⟩) ?_ ?_
        rotate_left
        · intro w'
          go_simp
          with_reducible rfl
        rotate_left
        · simp only [Act.put, List.setIfInBounds_toArray, List.set_cons_zero, List.set_cons_succ, i64_w, i32_w]
          rfl
        refine pure_ (i := 8) (N := some 64) (v := ?_) (a' := ?_) #[true, true, true, true, false, true, true, true, true, false, false, false, false, false, false, false, false, false, false] rfl rfl (by kernel_rfl) (fun _ _ _ h => h) (Or.inl ⟨by rfl, ?_⟩) ?_ ?_
        rotate_left
        · intro w'
          go_simp
          with_reducible rfl
        rotate_left
        · simp only [Act.put, List.setIfInBounds_toArray, List.set_cons_zero, List.set_cons_succ, i64_w, i32_w]
          rfl
        refine take_ (i := 9) (N := some 65) (v := ?_) (a' := ?_) #[true, true, true, true, false, true, true, true, true, true, false, false, false, false, false, false, false, false, false] rfl rfl (by kernel_rfl) (fun _ _ _ h => h) (Or.inl ⟨by rfl, ?_⟩) hHeld ?_ ?_
        rotate_left
        · intro w' hS
          have hx := (HCC.out w' hS).2.2.2.2.1
          go_simp
          with_reducible rfl
        rotate_left
        · simp only [Act.put, List.setIfInBounds_toArray, List.set_cons_zero, List.set_cons_succ, i64_w, i32_w]
          rfl
        refine pure_ (i := 10) (N := some 66) (v := ?_) (a' := ?_) #[true, true, true, true, false, true, true, true, true, true, true, false, false, false, false, false, false, false, false] rfl rfl (by kernel_rfl) (fun _ _ _ h => h) (Or.inl ⟨by rfl, ?_⟩) ?_ ?_
        rotate_left
        · intro w'
          go_simp
          with_reducible rfl
        rotate_left
        · simp only [Act.put, List.setIfInBounds_toArray, List.set_cons_zero, List.set_cons_succ, i64_w, i32_w]
          rfl
        refine pure_ (i := 11) (N := some 67) (v := ?_) (a' := ?_) #[true, true, true, true, false, true, true, true, true, true, true, true, false, false, false, false, false, false, false] rfl rfl (by kernel_rfl) (fun _ _ _ h => h) (Or.inl ⟨by rfl, ?_⟩) ?_ ?_
        rotate_left
        · intro w'
          go_simp
          with_reducible rfl
        rotate_left
        · simp only [Act.put, List.setIfInBounds_toArray, List.set_cons_zero, List.set_cons_succ, i64_w, i32_w]
          rfl
        refine take_ (i := 12) (N := some 68) (v := ?_) (a' := ?_) #[true, true, true, true, false, true, true, true, true, true, true, true, true, false, false, false, false, false, false] rfl rfl (by kernel_rfl) (fun _ _ _ h => h) (Or.inl ⟨by rfl, ?_⟩) hHeld ?_ ?_
        rotate_left
        · intro w' hS
          have hx := (HCC.out w' hS).2.2.1
          go_simp
          with_reducible rfl
        rotate_left
        · simp only [Act.put, List.setIfInBounds_toArray, List.set_cons_zero, List.set_cons_succ, i64_w, i32_w]
          rfl
        refine one_ (i := 4) (N := some 60) #[true, true, true, true, true, true, true, true, true, true, true, true, true, false, false, false, false, false, false] rfl rfl (by kernel_rfl) (by decide) (fun K hK => ?_)
        refine goes_ Tryd.func77 (by kernel_rfl) rfl #[.slice A5 L5.length c5, .slice A8 L8.length c8] (by rfl) rfl rfl (by simp only [List.map_toArray, List.map_cons, List.map_nil]; rfl) ?_
        refine (sorted_calls L5 L8 A5 A8 c5 c8 _ (Kd.R_lower (Kd.R_below HY.out.2.1 hHeld) (Nat.zero_le _)) (Kd.R_lower (Kd.R_below HY.out.2.2.1 hHeld) (Nat.zero_le _)) (by omega) (by omega)).mono ?_
        rintro e wt ⟨A9, c9, L9, rfl, hr9, hl9, hb9⟩
        have H9 := Aside0.mk (And.intro (Kd.R_lower hr9 hHeld.size) hl9)
        clear hr9 hl9
        refine ⟨_, rfl, ?_⟩
        refine hK.out _ _ (below_tr hHeld hb9 hHeld.size) (fun hHeld => ?_)
        clear hK K
        refine norm_ (a' := ?_) ?_ ?_
        rotate_left
        · show Act.put _ (some 60) _ = _
          simp only [Act.put, List.setIfInBounds_toArray, List.set_cons_zero, List.set_cons_succ, i64_w, i32_w]
          rfl
        refine pure_ (i := 13) (N := some 69) (v := ?_) (a' := ?_) #[true, true, true, true, true, true, true, true, true, true, true, true, true, true, false, false, false, false, false] rfl rfl (by kernel_rfl) (fun _ _ _ h => h) (Or.inl ⟨by rfl, ?_⟩) ?_ ?_
        rotate_left
        · intro w'
          go_simp
          with_reducible rfl
        rotate_left
        · simp only [Act.put, List.setIfInBounds_toArray, List.set_cons_zero, List.set_cons_succ, i64_w, i32_w]
          rfl
        refine pure_ (i := 14) (N := some 70) (v := ?_) (a' := ?_) #[true, true, true, true, true, true, true, true, true, true, true, true, true, true, true, false, false, false, false] rfl rfl (by kernel_rfl) (fun _ _ _ h => h) (Or.inl ⟨by rfl, ?_⟩) ?_ ?_
        rotate_left
        · intro w'
          go_simp
          with_reducible rfl
        rotate_left
        · simp only [Act.put, List.setIfInBounds_toArray, List.set_cons_zero, List.set_cons_succ, i64_w, i32_w]
          rfl
        refine take_ (i := 15) (N := some 71) (v := ?_) (a' := ?_) #[true, true, true, true, true, true, true, true, true, true, true, true, true, true, true, true, false, false, false] rfl rfl (by kernel_rfl) (fun _ _ _ h => h) (Or.inl ⟨by rfl, ?_⟩) hHeld ?_ ?_
        rotate_left
        · intro w' hS
          have hx := (HCC.out w' hS).2.2.2.2.2
          go_simp
          with_reducible rfl
        rotate_left
        · simp only [Act.put, List.setIfInBounds_toArray, List.set_cons_zero, List.set_cons_succ, i64_w, i32_w]
          rfl
        refine pure_ (i := 16) (N := some 72) (v := ?_) (a' := ?_) #[true, true, true, true, true, true, true, true, true, true, true, true, true, true, true, true, true, false, false] rfl rfl (by kernel_rfl) (fun _ _ _ h => h) (Or.inl ⟨by rfl, ?_⟩) ?_ ?_
        rotate_left
        · intro w'
          go_simp
          with_reducible rfl
        rotate_left
        · simp only [Act.put, List.setIfInBounds_toArray, List.set_cons_zero, List.set_cons_succ, i64_w, i32_w]
          rfl
        refine pure_ (i := 17) (N := some 73) (v := .agg (cF (.slice A9 L9.length c9) (wrap64 (wrap64 (1 + N5) + N8)) t1)) (a' := ?_) #[true, true, true, true, true, true, true, true, true, true, true, true, true, true, true, true, true, true, false] rfl rfl (by kernel_rfl) (fun _ _ _ h => h) (Or.inl ⟨by rfl, fun w' => yield_built 56 _ rfl (cF (.slice A9 L9.length c9) (wrap64 (wrap64 (1 + N5) + N8)) t1) [(0, .slice A9 L9.length c9), (1, .int .i64 (wrap64 (wrap64 (1 + N5) + N8))), (2, .bool t1)] (by simp only [List.map_toArray, List.map_cons, List.map_nil]; rfl) (built_F3 _ _ _ _ _)⟩) ?_ ?_
        rotate_left
        · simp only [Act.put, List.setIfInBounds_toArray, List.set_cons_zero, List.set_cons_succ, i64_w, i32_w]
          rfl
        have HF := Aside0.mk (And.intro (below_tr HY.out.1 hHeld HY.out.1.size) (Kd.R_lower H9.out.1 HY.out.1.size))
        have hlen := H9.out.2
        clear hHeld hb9
        refine tail_ 18 (by kernel_rfl) ?_
        simp only [List.toList_toArray, List.drop_succ_cons, List.drop_zero]
        go_wp2_with (first
          | ((with_reducible refine gate_store (t := 56) rfl ?_); (refine wpList_store_row rfl 56 (.tmp 6) (.tmp 73) rfl g (cF (.slice A9 L9.length c9) (wrap64 (wrap64 (1 + N5) + N8)) t1) rfl rfl 56 Z ((HF.out.1.block _ (by have := HB.out.2.2.1; omega)).trans HB.out.1) (by kernel_rfl) HZ.out.2 (cF_one rfl) ?_)))
        refine bodyPost_ret (v := .agg (cF (.slice A9 L9.length c9) (wrap64 (wrap64 (1 + N5) + N8)) t1)) ?_ rfl ⟨A9, c9, L9, (wrap64 (wrap64 (1 + N5) + N8)), by rw [HT3.out]; rfl, Kd.R_lower (R_setRow HF.out.2 (by have := HB.out.2.2.1; omega) _) HB.out.2.1.size, by omega, below_setRow (HB.out.2.1.trans (HF.out.1.mono (by have := HB.out.2.1.size; omega))) (by have := HG.out; omega)⟩
        exact results_cell_row rfl _ _ g 56 _ (0, 0) _ rfl (setRow_heap _ _ _ _ _ _ ((HF.out.1.block _ (by have := HB.out.2.2.1; omega)).trans HB.out.1)) hu56 rfl (by kernel_rfl)
theorem rd_ind : ∀ (k d : Nat), 256 - d = k → d ≤ 256 → RdIs d := by
  intro k
  induction k with
  | zero => exact fun d hk hd => rd_step d hd (fun h => by omega)
  | succ k ih => exact fun d hk hd => rd_step d hd (fun h => ih (d + 1) (by omega) (by omega))
end Go.Proofs.YtanabbjakacgbaaDoor.Sp
namespace Go.Proofs.YtanabbjakacgbaaDoor.Sp
open Go.RowKit Go.Proofs.YtanabbjakacgbaaDoorW.PrintWords Go.Proofs.YtanabbjakacgbaaDoorW.PrintLast Go.Proofs.YtanabbjakacgbaaDoorW.PrintMore Go.Proofs.YtanabbjakacgbaaDoor.PM
set_option linter.unusedVariables false
set_option linter.unusedSimpArgs false
theorem lt_bl : ∀ a b : List UInt8, a < b ↔ Op.bytesLess a b = true
  | [], [] => by simp [Op.bytesLess]
  | [], y :: b => by simp [Op.bytesLess, List.nil_lt_cons]
  | x :: a, [] => by simp [Op.bytesLess]
  | x :: a, y :: b => by
    rw [List.cons_lt_cons_iff, lt_bl a b, Op.bytesLess]
    simp
theorem le_bl (a b : List UInt8) : a ≤ b ↔ Op.bytesLess b a = false := by
  rw [← List.not_lt, lt_bl]; simp
theorem bl_tot {a b : List UInt8} (h : Op.bytesLess a b = false) (hne : ¬ a = b) : Op.bytesLess b a = true := by
  have := bl_tri a b
  rw [h, Bool.false_or] at this
  cases hb : Op.bytesLess b a with
  | true => rfl
  | false =>
    rw [hb] at this
    exact absurd (by simpa using this) hne
theorem le_trans' {a b c : List UInt8} (h1 : Op.bytesLess b a = false) (h2 : Op.bytesLess c b = false) : Op.bytesLess c a = false := by
  cases h : Op.bytesLess c a with
  | false => rfl
  | true =>
    by_cases e : b = a
    · rw [e, h] at h2; cases h2
    · have h3 := bl_trans _ _ _ h (bl_tot h1 e)
      rw [h3] at h2; cases h2
theorem lt_of_le_lt {a b c : List UInt8} (h1 : Op.bytesLess b a = false) (h2 : Op.bytesLess b c = true) : Op.bytesLess a c = true := by
  by_cases e : b = a
  · rw [← e]; exact h2
  · exact bl_trans _ _ _ (bl_tot h1 e) h2
theorem compact_strict (l : List (List UInt8)) (h : l.Pairwise fun a b => Op.bytesLess b a = false) : ∀ m, m ≤ l.length → (Go.Lib.compactUpTo l.toArray m).Pairwise fun a b => Op.bytesLess a b = true
  | 0, _ => by simp [Go.Lib.compactUpTo]
  | m + 1, hm => by
    have hm' : m < l.length := by omega
    have e : l.toArray[m]! = l[m] := by rw [getElem!_pos l.toArray m (by simpa using hm')]; simp
    rw [Go.Lib.compactUpTo_succ, e, List.pairwise_append]
    refine ⟨compact_strict l h m (by omega), by split <;> simp, fun x hx y hy => ?_⟩
    by_cases hk : Go.Lib.keeps l.toArray m = true
    · rw [if_pos hk] at hy
      rw [List.mem_singleton.1 hy]
      rw [compactUpTo_mem l m (by omega), List.mem_take_iff_getElem] at hx
      obtain ⟨i, hi, rfl⟩ := hx
      have hi2 : i < m := by omega
      have hp := List.pairwise_iff_getElem.1 h
      have h1 : Op.bytesLess (l[m - 1]'(by omega)) l[i] = false := by
        by_cases e2 : i = m - 1
        · subst e2; exact bl_irr _
        · exact hp i (m - 1) (by omega) (by omega) (by omega)
      have hne : ¬ l[m] = l[m - 1]'(by omega) := by
        intro e3
        have hk2 : m = 0 ∨ l.toArray[m]! ≠ l.toArray[m - 1]! := by simpa [Go.Lib.keeps] using hk
        rcases hk2 with h0 | h0
        · omega
        · rw [e, getElem!_pos l.toArray (m - 1) (by simp; omega)] at h0
          exact h0 (by simpa using e3)
      exact lt_of_le_lt h1 (bl_tot (hp (m - 1) m (by omega) (by omega) (by omega)) hne)
    · rw [if_neg hk] at hy; cases hy
def canon (ks : List ByteArray) : List ByteArray := compOf (sortOf ks)
theorem canon_mem (ks : List ByteArray) (k : ByteArray) : k ∈ canon ks ↔ k ∈ ks := by
  rw [canon, compOf, sortOf, List.map_map, show (sBl ∘ sLb) = id from funext fun l => bl_lb l, List.map_id, List.mem_map]
  constructor
  · rintro ⟨s, hs, rfl⟩
    rw [compact_mem, List.mem_mergeSort, List.mem_map] at hs
    obtain ⟨p, hp, rfl⟩ := hs
    rw [lb_bl]; exact hp
  · intro hk
    exact ⟨sBl k, by rw [compact_mem, List.mem_mergeSort]; exact List.mem_map_of_mem hk, lb_bl k⟩
theorem canon_strict (ks : List ByteArray) : (canon ks).Pairwise fun a b => blt a b = true := by
  rw [canon, compOf, sortOf, List.map_map, show (sBl ∘ sLb) = id from funext fun l => bl_lb l, List.map_id, List.pairwise_map]
  have hs : ((ks.map sBl).mergeSort fun x y => decide (x ≤ y)).Pairwise fun a b => Op.bytesLess b a = false := by
    have h := List.pairwise_mergeSort (le := fun x y : List UInt8 => decide (x ≤ y))
      (fun a b c h1 h2 => by
        simp only [decide_eq_true_eq, le_bl] at h1 h2 ⊢
        exact le_trans' h1 h2)
      (fun a b => by
        simp only [Bool.or_eq_true, decide_eq_true_eq, le_bl]
        cases hb : Op.bytesLess b a with
        | false => exact .inl rfl
        | true =>
          right
          cases hc : Op.bytesLess a b with
          | false => rfl
          | true => have := bl_trans _ _ _ hb hc; rw [bl_irr] at this; cases this) (ks.map sBl)
    refine h.imp fun hab => ?_
    rw [decide_eq_true_eq, le_bl] at hab
    exact hab
  refine (compact_strict _ hs _ (Nat.le_refl _)).imp fun {a b} hab => ?_
  show Op.bytesLess (sLb a).toList (sLb b).toList = true
  rw [ByteArray.toList_eq, ByteArray.toList_eq]
  simpa [sLb] using hab
theorem canon_ext {a b : List ByteArray} (h : ∀ k, k ∈ a ↔ k ∈ b) : canon a = canon b :=
  pair_ext (R := fun x y : ByteArray => blt x y = true) blt_asy _ _ (canon_strict a) (canon_strict b) (fun k => by rw [canon_mem, canon_mem, h])
theorem mem_itemsOf {l : List Lf} {x : Lf} : itemOf x ∈ itemsOf l ↔ x ∈ l := by
  rw [itemsOf, List.mem_map]
  constructor
  · rintro ⟨y, hy, e⟩
    have : y = x := congrArg It.x e
    rw [← this]; exact hy
  · exact fun h => ⟨x, h, rfl⟩
theorem only_keys (a b : List Lf) (k : ByteArray) : k ∈ onlyK (itemsOf a) (itemsOf b) ↔ ∃ y ∈ a, y ∉ b ∧ y.k = k := by
  rw [onlyK, List.mem_map]
  constructor
  · rintro ⟨z, hz, rfl⟩
    obtain ⟨h1, h2⟩ := List.mem_filter.1 hz
    have h3 := h1
    rw [itemsOf, List.mem_map] at h3
    obtain ⟨x, hx, rfl⟩ := h3
    exact ⟨x, hx, fun h => (of_decide_eq_true h2) (mem_itemsOf.2 h), rfl⟩
  · rintro ⟨y, hy, hn, rfl⟩
    exact ⟨itemOf y, List.mem_filter.2 ⟨mem_itemsOf.2 hy, decide_eq_true (fun h => hn (mem_itemsOf.1 h))⟩, rfl⟩
theorem cmpF_zero {d : Nat} {a b : List It} (hh : ¬ hashOf a d = hashOf b d) : cmpF 0 a b d = (onlyK a b ++ onlyK b a, 1) := by rw [cmpF, if_neg hh]
theorem cmpF_else {k d : Nat} {a b : List It} (hh : ¬ hashOf a d = hashOf b d) (he : ¬ (endsOf a d = true ∨ endsOf b d = true)) : cmpF (k + 1) a b d =
    ((cmpF k (halfOf a d 0) (halfOf b d 0) (d + 1)).1 ++ (cmpF k (halfOf a d 1) (halfOf b d 1) (d + 1)).1, 1 + (cmpF k (halfOf a d 0) (halfOf b d 0) (d + 1)).2 + (cmpF k (halfOf a d 1) (halfOf b d 1) (d + 1)).2) := by rw [cmpF, if_neg hh, if_neg he]
theorem cmpF_comm : ∀ (k : Nat) (a b : List It) (d : Nat), (∀ x, x ∈ (cmpF k a b d).1 ↔ x ∈ (cmpF k b a d).1) ∧ (cmpF k a b d).2 = (cmpF k b a d).2
  | 0, a, b, d => by
    by_cases h : hashOf a d = hashOf b d
    · rw [cmpF_same h, cmpF_same h.symm]; exact ⟨fun _ => Iff.rfl, rfl⟩
    · rw [cmpF_zero h, cmpF_zero (fun e => h e.symm)]
      exact ⟨fun x => by rw [List.mem_append, List.mem_append]; exact Or.comm, rfl⟩
  | k + 1, a, b, d => by
    by_cases h : hashOf a d = hashOf b d
    · rw [cmpF_same h, cmpF_same h.symm]; exact ⟨fun _ => Iff.rfl, rfl⟩
    · by_cases he : endsOf a d = true ∨ endsOf b d = true
      · rw [cmpF_end he h, cmpF_end he.symm (fun e => h e.symm)]
        exact ⟨fun x => by rw [List.mem_append, List.mem_append]; exact Or.comm, rfl⟩
      · rw [cmpF_else h he, cmpF_else (fun e => h e.symm) (fun e => he e.symm)]
        obtain ⟨i1, i2⟩ := cmpF_comm k (halfOf a d 0) (halfOf b d 0) (d + 1)
        obtain ⟨j1, j2⟩ := cmpF_comm k (halfOf a d 1) (halfOf b d 1) (d + 1)
        exact ⟨fun x => by rw [List.mem_append, List.mem_append, i1, j1], by rw [i2, j2]⟩
theorem lvs_items (l : List Lf) : lvs (itemsOf l) = l := by
  rw [lvs, itemsOf, List.map_map]
  conv => rhs; rw [← List.map_id l]
  rfl
theorem cmpF_keys : ∀ (k d : Nat) (a b : List Lf), 256 - d = k → hidF k (itemsOf a) (itemsOf b) d = false → ∀ x, x ∈ (cmpF k (itemsOf a) (itemsOf b) d).1 ↔ ∃ y ∈ difLs a b, y.k = x := by
  intro k
  induction k with
  | zero =>
    intro d a b hkd hh x
    by_cases h : hashOf (itemsOf a) d = hashOf (itemsOf b) d
    · rw [cmpF_same h]
      rw [hidF_same h, lvs_items, lvs_items, differOf, List.length_map] at hh
      have h0 : difLs a b = [] := List.length_eq_zero_iff.1 (by have := of_decide_eq_false hh; omega)
      rw [h0]; simp
    · rw [cmpF_end (.inl (by simp [endsOf]; omega)) h, List.mem_append, only_keys, only_keys, difLs_keys]
  | succ k ih =>
    intro d a b hkd hh x
    by_cases h : hashOf (itemsOf a) d = hashOf (itemsOf b) d
    · rw [cmpF_same h]
      rw [hidF_same h, lvs_items, lvs_items, differOf, List.length_map] at hh
      have h0 : difLs a b = [] := List.length_eq_zero_iff.1 (by have := of_decide_eq_false hh; omega)
      rw [h0]; simp
    · by_cases he : endsOf (itemsOf a) d = true ∨ endsOf (itemsOf b) d = true
      · rw [cmpF_end he h, List.mem_append, only_keys, only_keys, difLs_keys]
      · rw [hidF, if_neg h, if_neg he, Bool.or_eq_false_iff, ← itemsOf_half, ← itemsOf_half, ← itemsOf_half, ← itemsOf_half] at hh
        rw [cmpF_else h he, ← itemsOf_half, ← itemsOf_half, ← itemsOf_half, ← itemsOf_half]
        simp only [List.mem_append]
        rw [ih (d + 1) _ _ (by omega) hh.1 x, ih (d + 1) _ _ (by omega) hh.2 x, difLs_keys, difLs_keys, difLs_keys]
        constructor
        · rintro ((⟨y, hy, hn, e⟩ | ⟨y, hy, hn, e⟩) | (⟨y, hy, hn, e⟩ | ⟨y, hy, hn, e⟩))
          · exact .inl ⟨y, (mem_half.1 hy).1, fun h => hn (mem_half.2 ⟨h, (mem_half.1 hy).2⟩), e⟩
          · exact .inr ⟨y, (mem_half.1 hy).1, fun h => hn (mem_half.2 ⟨h, (mem_half.1 hy).2⟩), e⟩
          · exact .inl ⟨y, (mem_half.1 hy).1, fun h => hn (mem_half.2 ⟨h, (mem_half.1 hy).2⟩), e⟩
          · exact .inr ⟨y, (mem_half.1 hy).1, fun h => hn (mem_half.2 ⟨h, (mem_half.1 hy).2⟩), e⟩
        · rintro (⟨y, hy, hn, e⟩ | ⟨y, hy, hn, e⟩)
          · rcases bitI_01 (hk y.k) d with hb | hb
            · exact .inl (.inl ⟨y, mem_half.2 ⟨hy, hb⟩, fun h => hn (mem_half.1 h).1, e⟩)
            · exact .inr (.inl ⟨y, mem_half.2 ⟨hy, hb⟩, fun h => hn (mem_half.1 h).1, e⟩)
          · rcases bitI_01 (hk y.k) d with hb | hb
            · exact .inl (.inr ⟨y, mem_half.2 ⟨hy, hb⟩, fun h => hn (mem_half.1 h).1, e⟩)
            · exact .inr (.inr ⟨y, mem_half.2 ⟨hy, hb⟩, fun h => hn (mem_half.1 h).1, e⟩)
theorem diffs_says {l m : List Lf} (hl : Srt l) (hm : Srt m) (hh : hidF 256 (itemsOf l) (itemsOf m) 0 = false) :
    (diffOf l m).1 = differOf l m ∧ (diffOf l m).1 = (diffOf m l).1 ∧ (diffOf l m).2 = (diffOf m l).2 ∧ (rootOf l = rootOf m ↔ (diffOf l m).1 = []) := by
  have hk := cmpF_keys 256 0 l m rfl hh
  have hc := cmpF_comm 256 (itemsOf l) (itemsOf m) 0
  have e1 : (diffOf l m).1 = differOf l m := by
    refine pair_ext (R := fun x y : ByteArray => blt x y = true) blt_asy _ _ (canon_strict _) ?_ (fun k => ?_)
    · rw [differOf, List.pairwise_map]
      exact Srt.difLs l m
    · rw [differOf, List.mem_map]
      exact (canon_mem _ k).trans (hk k)
  refine ⟨e1, canon_ext hc.1, hc.2, ?_⟩
  constructor
  · intro h
    have : cmpF 256 (itemsOf l) (itemsOf m) 0 = ([], 1) := cmpF_same h
    show canon (cmpF 256 (itemsOf l) (itemsOf m) 0).1 = []
    rw [this]
    exact List.eq_nil_iff_forall_not_mem.2 fun k hk => by rw [canon_mem] at hk; cases hk
  · intro h
    by_cases e : l = m
    · rw [e]
    · have := dif_some hl hm e
      rw [e1, differOf] at h
      have h0 : (difLs l m).length = 0 := by rw [← List.length_map (f := fun x : Lf => x.k), h]; rfl
      omega
end Go.Proofs.YtanabbjakacgbaaDoor.Sp
namespace Go.Proofs.YtanabbjakacgbaaDoor.Sp
open Go.RowKit Go.Proofs.YtanabbjakacgbaaDoorW.PrintWords Go.Proofs.YtanabbjakacgbaaDoorW.PrintLast Go.Proofs.YtanabbjakacgbaaDoorW.PrintMore Go.Proofs.YtanabbjakacgbaaDoor.PM
set_option linter.unusedVariables false
set_option linter.unusedSimpArgs false
set_option maxRecDepth 100000
attribute [local go_sem] Oper.semAt_some
theorem rd_calls (a b : List It) (Aa Ab : Option Addr) (ca cb : Nat) (w : World) (h1 : SmI a) (h2 : SmI b) (h3 : a.length ≤ 5000) (h4 : b.length ≤ 5000) (h5 : kI.C w Aa a.length a) (h6 : kI.C w Ab b.length b) (h7 : a.length ≤ ca) (h8 : b.length ≤ cb) (h : Bool) (hh : hidF 256 a b 0 = h) :
    Calls Tryd.prog 56 #[.slice Aa a.length ca, .slice Ab b.length cb, .int .i64 0] w (RdPost w (a.length + b.length) h) := by
  have := rd_ind 256 0 rfl (by decide) a b Aa Ab ca cb w h1 h2 h3 h4 h5 h6 h7 h8
  rw [Nat.sub_zero, hh] at this
  exact this
theorem items4R_calls (l : List Lf) (A : Option Addr) (c : Nat) (w : World) (hr : kL.R 33 w 0 (fun _ => True) (.slice A l.length c) l) (hl : SmL l) (m : List It) (hm : itemsOf l = m) :
    Calls Tryd.prog 42 #[.slice A l.length c] w fun e w' => ∃ A' c', e = .returned (.slice A' m.length c') ∧ m.length ≤ c' ∧ kI.C w' A' m.length m ∧ Below w.heap.size w w' := by
  have h := items4_calls l A c w (R_C hr).2.2 (R_C hr).2.1 hl.small
  rw [hm] at h
  refine h.mono ?_
  rintro e w' ⟨v, rfl, h1, h2⟩
  obtain ⟨A', c', rfl, h3, h4⟩ := Kd.R_reads h1
  exact ⟨A', c', rfl, h3, h4, h2⟩
theorem Diff4R_calls (l m : List Lf) (A A2 : Option Addr) (c c2 : Nat) (w : World) (hrl : kL.R 33 w 0 (fun _ => True) (.slice A l.length c) l) (hrm : kL.R 33 w 0 (fun _ => True) (.slice A2 m.length c2) m) (hl : SmL l) (hm : SmL m) (hl1 : l.length ≤ 5000) (hm1 : m.length ≤ 5000) (h : Bool) (hh : hidF 256 (itemsOf l) (itemsOf m) 0 = h) :
    Calls Tryd.prog 25 #[.slice A l.length c, .slice A2 m.length c2] w fun e w' => ∃ A' n' c' N, e = .returned (.agg (cF (.slice A' n' c') N h)) ∧ Below w.heap.size w w' := by
  have hu56 := Tryd.underlying56
  obtain ⟨g, hg⟩ : ∃ g, g = w.heap.size := ⟨_, rfl⟩
  obtain ⟨Z, hz56⟩ : ∃ Z, Z = cF (.slice none 0 0) 0 false := ⟨_, rfl⟩
  obtain ⟨wb, hwb⟩ : ∃ wb, wb = w.alloc (.cells Z 56) := ⟨_, rfl⟩
  have h0 : wb.heap[g]? = some (.cells Z 56 (0, 0)) := by rw [hwb]; exact h_new hg
  have hb : Below w.heap.size w wb := by rw [hwb]; exact below_alloc (Below.refl _ _) _
  have hs : wb.heap.size = g + 1 := by rw [hwb, size_alloc, hg]
  have HB := Aside0.mk (⟨h0, hb, hs, Kd.R_below hrl hb, Kd.R_below hrm hb⟩ : _ ∧ _ ∧ _ ∧ _ ∧ _)
  have HWB := Aside0.mk hwb
  have HG := Aside0.mk hg
  have HZ := Aside0.mk (And.intro (show ∀ w, (zeroValue 56).run Tryd.prog w = .ok (.agg Z) w by rw [hz56]; exact zero56) (show Z.size = 3 by rw [hz56]; rfl))
  obtain ⟨il, hil⟩ : ∃ x, itemsOf l = x := ⟨_, rfl⟩
  obtain ⟨im, him⟩ : ∃ x, itemsOf m = x := ⟨_, rfl⟩
  have HL := Aside0.mk (⟨hl, hm, hil, him, by rw [← hil]; exact ⟨by rw [itemsOf, List.length_map]; exact hl.1, fun y hy => by
      rw [itemsOf, List.mem_map] at hy; obtain ⟨x, hx, rfl⟩ := hy; exact hl.2 x hx⟩, by rw [← him]; exact ⟨by rw [itemsOf, List.length_map]; exact hm.1, fun y hy => by
      rw [itemsOf, List.mem_map] at hy; obtain ⟨x, hx, rfl⟩ := hy; exact hm.2 x hx⟩, by rw [← hil, itemsOf, List.length_map]; exact hl1, by rw [← him, itemsOf, List.length_map]; exact hm1, by rw [← hil, ← him]; exact hh⟩ :
    SmL l ∧ SmL m ∧ itemsOf l = il ∧ itemsOf m = im ∧ SmI il ∧ SmI im ∧ il.length ≤ 5000 ∧ im.length ≤ 5000 ∧ hidF 256 il im 0 = h)
  clear hl hm hrl hrm hwb hb h0 hs hg hz56 hil him hh
  go_enter Tryd.func25, Tryd.ntmps25
  go_wp2_with (first
    | ((with_reducible refine gate_dst (N := 4) rfl ?_); (refine wpList_allocz rfl 56 Z rfl HZ.out.1 ?_); rw [← HWB.out, ← HG.out])
    | (go_at_call 42; (with_reducible refine (items4R_calls l A c wb HB.out.2.2.2.1 HL.out.1 il HL.out.2.2.1).mono ?_); rintro e w1 ⟨A1, c1, rfl, hc1, hr1, hb1⟩; have H1 := Aside0.mk (⟨hb1, hr1, Kd.R_below HB.out.2.2.2.2 hb1⟩ : _ ∧ _ ∧ _); clear hb1 hr1)
    | (go_at_call 42; (with_reducible refine (items4R_calls m A2 c2 w1 H1.out.2.2 HL.out.2.1 im HL.out.2.2.2.1).mono ?_); rintro e w2 ⟨A3, c3, rfl, hc3, hr3, hb3⟩; have H2 := Aside0.mk (⟨below_tr H1.out.1 hb3 H1.out.1.size, Kd.C_below H1.out.2.1 hb3, hr3⟩ : _ ∧ _ ∧ _); clear hb3 hr3)
    | (go_at_call 56; (with_reducible refine (rd_calls il im A1 A3 c1 c3 w2 HL.out.2.2.2.2.1 HL.out.2.2.2.2.2.1 HL.out.2.2.2.2.2.2.1 HL.out.2.2.2.2.2.2.2.1 H2.out.2.1 H2.out.2.2 hc1 hc3 h HL.out.2.2.2.2.2.2.2.2).mono ?_); rintro e w5 ⟨A5, c5, L5, N5, rfl, hr5, hl5, hb5⟩; have H5 := Aside0.mk (below_tr H2.out.1 hb5 H2.out.1.size); clear hr5 hb5 hl5)
    | ((with_reducible refine gate_store (t := 56) rfl ?_); (refine wpList_store_row rfl 56 (.tmp 4) (.tmp 9) rfl g (cF (.slice A5 L5.length c5) N5 h) rfl rfl 56 Z ((H5.out.block _ (by have := HB.out.2.2.1; omega)).trans HB.out.1) (by kernel_rfl) HZ.out.2 (cF_one rfl) ?_)))
  refine bodyPost_ret (v := .agg (cF (.slice A5 L5.length c5) N5 h)) ?_ rfl ⟨A5, L5.length, c5, N5, rfl, below_setRow (HB.out.2.1.trans (H5.out.mono (by have := HB.out.2.1.size; omega))) (by have := HG.out; omega)⟩
  exact results_cell_row rfl _ _ g 56 _ (0, 0) _ rfl (setRow_heap _ _ _ _ _ _ ((H5.out.block _ (by have := HB.out.2.2.1; omega)).trans HB.out.1)) hu56 rfl (by kernel_rfl)
theorem Made8_calls (a : List (Int × Int)) (ha : Oct a) (A : Option Addr) (c : Nat) (w : World) (hr : kQ.C w A a.length a) (hc : a.length ≤ c) (l : List Lf) (hl : madeOf (a.take 8) = l) :
    Calls Tryd.prog 11 #[.slice A a.length c, .int .i64 8] w fun e w' => ∃ A' c', e = .returned (.slice A' l.length c') ∧ kL.R 33 w' 0 (fun _ => True) (.slice A' l.length c') l ∧ Below w.heap.size w w' := by
  have h := Made_calls a ha 8 (by decide) A c w hr hc
  rw [hl] at h
  refine h.mono ?_
  rintro e w' ⟨v, rfl, hr2, hb2⟩
  obtain ⟨A', c', rfl⟩ := Kd.R_slice hr2
  exact ⟨A', c', rfl, Kd.R_lower hr2 (Nat.zero_le _), hb2⟩
theorem SameK_calls (l : List ByteArray) (A A2 : Option Addr) (c c2 : Nat) (w : World) (hr : Kd.string.R 9 w 0 (fun _ => True) (.slice A l.length c) l) (hr2 : Kd.string.R 9 w 0 (fun _ => True) (.slice A2 l.length c2) l) (hl : l.length ≤ 10000000) :
    Calls Tryd.prog 26 #[.slice A l.length c, .slice A2 l.length c2] w fun e w' => e = .returned (.bool true) ∧ Below w.heap.size w w' := by
  have h := SameKeys_calls l l A A2 c c2 0 0 _ _ w hr hr2 hl hl
  rw [decide_eq_true rfl] at h
  exact h
structure DfSt (w0 : World) (A Am : Option Addr) (c cm : Nat) (l m : List Lf) (g : Nat) (D8 D9 : Array Value) (A4 A5 : Option Addr) (c4 c5 : Nat) (ks : List ByteArray) (w : World) : Prop where
  below : Below w0.heap.size w0 w
  words : Words w
  row : kL.R 33 w 0 (fun _ => True) (.slice A l.length c) l
  rom : kL.R 33 w 0 (fun _ => True) (.slice Am m.length cm) m
  b8 : w.heap[g]? = some (.cells D8 56 (0, 0))
  b9 : w.heap[g + 1]? = some (.cells D9 56 (0, 0))
  k8 : Kd.string.R 9 w 0 (fun _ => True) (.slice A4 ks.length c4) ks
  k9 : Kd.string.R 9 w 0 (fun _ => True) (.slice A5 ks.length c5) ks
theorem DfSt.next {w0 w w' : World} {A Am A4 A5 : Option Addr} {c cm g c4 c5 : Nat} {l m : List Lf} {D8 D9 : Array Value} {ks : List ByteArray} (h : DfSt w0 A Am c cm l m g D8 D9 A4 A5 c4 c5 ks w) (hb : Below w.heap.size w w') : DfSt w0 A Am c cm l m g D8 D9 A4 A5 c4 c5 ks w' :=
  ⟨below_tr h.below hb h.below.size, h.words.below hb, Kd.R_below h.row hb, Kd.R_below h.rom hb, at_next h.b8 hb, at_next h.b9 hb, Kd.R_below h.k8 hb, Kd.R_below h.k9 hb⟩
theorem fld_F2 (w : World) (v : Value) (n : Int) (h : Bool) : (Instr.field 56 (.agg (cF v n h)) 2).run Tryd.prog w = .ok (.bool h) w :=
  run_field w Tryd.underlying56 rfl (run_part_cell w Tryd.underlying4 rfl rfl)
def PausedD (p : Prop) : Prop := p
theorem pauseD_ {p : Prop} (h : PausedD p) : p := h
theorem unpauseD_ {p : Prop} (h : p) : PausedD p := h
set_option maxHeartbeats 4000000 in
theorem diffs_calls (a b : List (Int × Int)) (ha : Oct a) (hbo : Oct b) (A0 Ab : Option Addr) (c0 cb : Nat) (w : World) (hW : Words w) (hr : kQ.C w A0 a.length a) (hc : a.length ≤ c0) (hrb : kQ.C w Ab b.length b) (hcb : b.length ≤ cb) :
    Calls Tryd.prog 6 #[.slice A0 a.length c0, .slice Ab b.length cb] w fun e w' => e = .returned (.bool true) ∧ Below w.heap.size w w' := by
  have HS := Aside0.mk (⟨hr, hc, hrb, hcb⟩ : _ ∧ _ ∧ _ ∧ _)
  have HW := Aside0.mk hW
  have HA := Aside0.mk (And.intro ha hbo)
  obtain ⟨l, hl⟩ : ∃ l, madeOf (a.take 8) = l := ⟨_, rfl⟩
  obtain ⟨m, hm⟩ : ∃ l, madeOf (b.take 8) = l := ⟨_, rfl⟩
  have hll : l.length ≤ 8 := by rw [← hl]; have := made_le (a.take 8); rw [List.length_take] at this; omega
  have hml : m.length ≤ 8 := by rw [← hm]; have := made_le (b.take 8); rw [List.length_take] at this; omega
  obtain ⟨h, hh⟩ : ∃ h, hidF 256 (itemsOf l) (itemsOf m) 0 = h := ⟨_, rfl⟩
  have HL := Aside0.mk (⟨hl, hm, by rw [← hl]; exact made_sm a 8 (by decide), by rw [← hm]; exact made_sm b 8 (by decide), by omega, by omega, hh⟩ : madeOf (a.take 8) = l ∧ madeOf (b.take 8) = m ∧ SmL l ∧ SmL m ∧ l.length ≤ 5000 ∧ m.length ≤ 5000 ∧ hidF 256 (itemsOf l) (itemsOf m) 0 = h)
  have hsl : Srt l := by rw [← hl]; exact Srt.made _
  have hsm : Srt m := by rw [← hm]; exact Srt.made _
  obtain ⟨d1, hd1⟩ : ∃ d, diffOf l m = d := ⟨_, rfl⟩
  obtain ⟨d2, hd2⟩ : ∃ d, diffOf m l = d := ⟨_, rfl⟩
  obtain ⟨r1, hr1⟩ : ∃ r, rootOf l = r := ⟨_, rfl⟩
  obtain ⟨r2, hr2⟩ : ∃ r, rootOf m = r := ⟨_, rfl⟩
  have HD := Aside0.mk (⟨hd1, hd2, hr1, hr2⟩ : _ ∧ _ ∧ _ ∧ _)
  have hsay : h = false → d1.1 = differOf l m ∧ d1.1 = d2.1 ∧ d1.2 = d2.2 ∧ (r1 = r2 ↔ d1.1 = []) := fun e => by
    have := diffs_says hsl hsm (by rw [hh, e])
    rwa [hd1, hd2, hr1, hr2] at this
  have HSAY := Aside0.mk hsay
  obtain ⟨Z56, hz56⟩ : ∃ Z, Z = cF (.slice none 0 0) 0 false := ⟨_, rfl⟩
  have HZ56 := Aside0.mk (And.intro (show ∀ w, (zeroValue 56).run Tryd.prog w = .ok (.agg Z56) w by rw [hz56]; exact zero56) (show Z56.size = 3 by rw [hz56]; rfl))
  clear hr hc hW ha hl hrb hcb hbo hm hh hsl hsm hd1 hd2 hr1 hr2 hsay hz56
  go_enter Tryd.func6, Tryd.ntmps6
  go_wp2_with (first
    | (go_at_call 10; (with_reducible refine (sanity_calls w HW.out).mono ?_); rintro e w1 ⟨rfl, hb1⟩; have H1 := Aside0.mk (⟨hb1, HW.out.below hb1, Kd.C_below HS.out.1 hb1, Kd.C_below HS.out.2.2.1 hb1⟩ : _ ∧ _ ∧ _ ∧ _); clear hb1)
    | (go_at_call 11; (with_reducible refine (Made8_calls a HA.out.1 A0 c0 w1 H1.out.2.2.1 HS.out.2.1 l HL.out.1).mono ?_); rintro e w2 ⟨A, c, rfl, hr2, hb2⟩; have H2 := Aside0.mk (⟨below_tr H1.out.1 hb2 H1.out.1.size, H1.out.2.1.below hb2, hr2, Kd.C_below H1.out.2.2.2 hb2⟩ : _ ∧ _ ∧ _ ∧ _); clear hr2 hb2)
    | (go_at_call 11; (with_reducible refine (Made8_calls b HA.out.2 Ab cb w2 H2.out.2.2.2 HS.out.2.2.2 m HL.out.2.1).mono ?_); rintro e w3 ⟨Am, cm, rfl, hr3, hb3⟩; have H3 := Aside0.mk (⟨below_tr H2.out.1 hb3 H2.out.1.size, H2.out.2.1.below hb3, Kd.R_below H2.out.2.2.1 hb3, hr3⟩ : _ ∧ _ ∧ _ ∧ _); clear hr3 hb3)
    | (go_at_call 24; (with_reducible refine (diffR_calls l m A Am c cm w3 H3.out.2.1 H3.out.2.2.1 H3.out.2.2.2 HL.out.2.2.1 HL.out.2.2.2.1 d1 HD.out.1).mono ?_); rintro e w4 ⟨A4, c4, D4, hD4, rfl, hr4, hb4⟩; have HD4 := Aside0.mk (⟨hD4, hr4, below_tr H3.out.1 hb4 H3.out.1.size, H3.out.2.1.below hb4, Kd.R_below H3.out.2.2.1 hb4, Kd.R_below H3.out.2.2.2 hb4⟩ : _ ∧ _ ∧ _ ∧ _ ∧ _ ∧ _); clear hD4 hr4 hb4)
    | (go_at_call 24; (with_reducible refine (diffR_calls m l Am A cm c w4 HD4.out.2.2.2.1 HD4.out.2.2.2.2.2 HD4.out.2.2.2.2.1 HL.out.2.2.2.1 HL.out.2.2.1 d2 HD.out.2.1).mono ?_); rintro e w5 ⟨A5, c5, D5, hD5, rfl, hr5, hb5⟩; have HD5 := Aside0.mk (⟨hD5, hr5, Kd.R_below HD4.out.2.1 hb5, below_tr HD4.out.2.2.1 hb5 HD4.out.2.2.1.size, HD4.out.2.2.2.1.below hb5, Kd.R_below HD4.out.2.2.2.2.1 hb5, Kd.R_below HD4.out.2.2.2.2.2 hb5⟩ : _ ∧ _ ∧ _ ∧ _ ∧ _ ∧ _ ∧ _); clear hD5 hr5 hb5; obtain ⟨n5, hn5⟩ : ∃ n, n = w5.heap.size := ⟨_, rfl⟩; obtain ⟨ux, hux⟩ : ∃ wx, (w5.alloc (.cells Z56 56)).alloc (.cells Z56 56) = wx := ⟨_, rfl⟩; obtain ⟨uy, huy⟩ : ∃ wy, (ux.setRow n5 D4).setRow (n5 + 1) D5 = wy := ⟨_, rfl⟩; have HU5 := Aside0.mk (two_boxes hn5 hux huy); have HUX := Aside0.mk hux; have HUY := Aside0.mk huy; have HN5 := Aside0.mk hn5; clear hux huy hn5)
    | ((with_reducible refine gate_dst (N := 8) rfl ?_); (refine wpList_allocz rfl 56 Z56 rfl HZ56.out.1 ?_))
    | ((with_reducible refine gate_dst (N := 9) rfl ?_); (refine wpList_allocz rfl 56 Z56 rfl HZ56.out.1 ?_); rw [size_alloc, ← HN5.out])
    | ((with_reducible refine gate_store (t := 56) (p := 8) rfl ?_); rw [HUX.out]; (refine wpList_store_row rfl 56 (.tmp 8) (.tmp 17) rfl n5 D4 rfl rfl 56 Z56 HU5.out.1 (by rw [HD4.out.1]; kernel_rfl) (by rw [HD4.out.1, HZ56.out.2]; rfl) (by rw [HD4.out.1]; exact cF_one rfl) ?_))
    | ((with_reducible refine gate_store (t := 56) (p := 9) rfl ?_); (refine wpList_store_row rfl 56 (.tmp 9) (.tmp 20) rfl (n5 + 1) D5 rfl rfl 56 Z56 HU5.out.2.1 (by rw [HD5.out.1]; kernel_rfl) (by rw [HD5.out.1, HZ56.out.2]; rfl) (by rw [HD5.out.1]; exact cF_one rfl) ?_); (refine at_world (w' := uy) HUY.out ?_); have HY := Aside0.mk (⟨below_tr HD5.out.2.2.2.1 HU5.out.2.2.2.2 HD5.out.2.2.2.1.size, HD5.out.2.2.2.2.1.below HU5.out.2.2.2.2, Kd.R_below HD5.out.2.2.2.2.2.1 HU5.out.2.2.2.2, Kd.R_below HD5.out.2.2.2.2.2.2 HU5.out.2.2.2.2, HU5.out.2.2.1, HU5.out.2.2.2.1, Kd.R_below HD5.out.2.2.1 HU5.out.2.2.2.2, Kd.R_below HD5.out.2.1 HU5.out.2.2.2.2⟩ : _ ∧ _ ∧ _ ∧ _ ∧ _ ∧ _ ∧ _ ∧ _))
    | (go_at_call 25; (with_reducible refine (Diff4R_calls l m A Am c cm uy HY.out.2.2.1 HY.out.2.2.2.1 HL.out.2.2.1 HL.out.2.2.2.1 HL.out.2.2.2.2.1 HL.out.2.2.2.2.2.1 h HL.out.2.2.2.2.2.2).mono ?_); rintro e w6 ⟨A6, n6, c6, N6, rfl, hb6⟩; have HB6 := Aside0.mk hb6; clear hb6; refine pauseD_ ?_))
  have HQ := Aside0.mk (HY.out.1.trans (HB6.out.mono HY.out.1.size))
  cases h with
  | true =>
    clear HSAY H1 H2 H3 HD4 HD5 HU5 HUX HUY HN5 HY HB6
    refine unpauseD_ ?_
    go_wp2_with (first
      | ((with_reducible refine gate_dst (N := 24) rfl ?_); refine wpList_field rfl _ _ _ rfl _ rfl _ (fun w => fld_F2 w _ _ _) ?_))
    go_ret
    exact ⟨rfl, HQ.out⟩
  | false =>
    obtain ⟨s1, s2, s3, s4⟩ := HSAY.out rfl
    obtain ⟨ks, hks⟩ : ∃ ks, d1.1 = ks := ⟨_, rfl⟩
    obtain ⟨N, hN⟩ : ∃ N : Int, ((d1.2 : Nat) : Int) = N := ⟨_, rfl⟩
    have st : DfSt w A Am c cm l m n5 D4 D5 A4 A5 c4 c5 ks w6 := DfSt.next ⟨HY.out.1, HY.out.2.1, HY.out.2.2.1, HY.out.2.2.2.1, HY.out.2.2.2.2.1, HY.out.2.2.2.2.2.1, by rw [← hks]; exact HY.out.2.2.2.2.2.2.1, by rw [← hks, s2]; exact HY.out.2.2.2.2.2.2.2⟩ HB6.out
    have hD4 : D4 = cF (.slice A4 ks.length c4) N false := by rw [← hks, ← hN]; exact HD4.out.1
    have hD5 : D5 = cF (.slice A5 ks.length c5) N false := by rw [← hks, ← hN, s2, s3]; exact HD5.out.1
    obtain ⟨t, ht⟩ : ∃ t : Bool, decide (r1 = r2) = t := ⟨_, rfl⟩
    have hn0 : (((ks.length : Nat) : Int) == 0) = t := by
      rw [← ht]
      by_cases e : r1 = r2
      · have := s4.1 e; rw [hks] at this; rw [this, decide_eq_true e]; rfl
      · have : ¬ ks = [] := fun h0 => e (s4.2 (by rw [hks]; exact h0))
        have h1 : 0 < ks.length := List.length_pos_iff.2 this
        rw [decide_eq_false e]
        simp; omega
    have hksl : ks.length ≤ 10000 := by
      rw [← hks, s1]
      have := dif_bound l m
      omega
    have HF := Aside0.mk (⟨st, hD4, hD5, by rw [← hks]; exact s1.symm, fun w => by rw [eqS, ht]⟩ : DfSt w A Am c cm l m n5 D4 D5 A4 A5 c4 c5 ks w6 ∧ D4 = cF (.slice A4 ks.length c4) N false ∧ D5 = cF (.slice A5 ks.length c5) N false ∧ differOf l m = ks ∧ ∀ w, (Op.equal 27 (.agg (cS r1)) (.agg (cS r2))).run Tryd.prog w = .ok t w)
    have hcc : ∀ W, Below w6.heap.size w6 W → W.cell? ⟨n5, 0, none⟩ = some (.slice A4 ks.length c4) ∧ W.cell? ⟨n5, 1, none⟩ = some (.int .i64 N) ∧ W.cell? ⟨n5 + 1, 0, none⟩ = some (.slice A5 ks.length c5) ∧ W.cell? ⟨n5 + 1, 1, none⟩ = some (.int .i64 N) := fun W hb =>
      ⟨cell_F0 HF.out.2.1 (HF.out.1.next hb).b8, cell_F1 HF.out.2.1 (HF.out.1.next hb).b8, cell_F0 HF.out.2.2.1 (HF.out.1.next hb).b9, cell_F1 HF.out.2.2.1 (HF.out.1.next hb).b9⟩
    have HCC := Aside0.mk hcc
    clear s1 s2 s3 s4 hks hN st hD4 hD5 ht hcc HSAY H1 H2 H3 HD4 HD5 HU5 HUX HUY HN5 HY HB6
    refine unpauseD_ ?_
    go_wp2_with (first
      | ((with_reducible refine gate_dst (N := 24) rfl ?_); refine wpList_field rfl _ _ _ rfl _ rfl _ (fun w => fld_F2 w _ _ _) ?_))
    refine start_ (n := 36) (S := fun w' => Below w6.heap.size w6 w') (ds := [35]) #[false, false, false, false, false, false, false, false, false, false, false, false, false, false, false, false, false, false, false, false, false, false, false, false, false, false, false, false, false, false, false, false, false, false, false, false] (by kernel_rfl) rfl rfl (Below.refl _ _).drew (fun hHeld => ?_)
    refine pure_ (i := 0) (N := some 26) (v := ?_) (a' := ?_) #[true, false, false, false, false, false, false, false, false, false, false, false, false, false, false, false, false, false, false, false, false, false, false, false, false, false, false, false, false, false, false, false, false, false, false, false] rfl rfl (by kernel_rfl) (fun _ _ _ h => h) (Or.inl ⟨by rfl, ?_⟩) ?_ ?_
    rotate_left
    · intro w'
      go_simp
      with_reducible rfl
    rotate_left
    · simp only [Act.put, List.setIfInBounds_toArray, List.set_cons_zero, List.set_cons_succ, i64_w, i32_w]
      rfl
    refine take_ (i := 1) (N := some 27) (v := ?_) (a' := ?_) #[true, true, false, false, false, false, false, false, false, false, false, false, false, false, false, false, false, false, false, false, false, false, false, false, false, false, false, false, false, false, false, false, false, false, false, false] rfl rfl (by kernel_rfl) (fun _ _ _ h => h) (Or.inl ⟨by rfl, ?_⟩) hHeld ?_ ?_
    rotate_left
    · intro w' hS
      have hx := (HCC.out w' hS).1
      go_simp
      with_reducible rfl
    rotate_left
    · simp only [Act.put, List.setIfInBounds_toArray, List.set_cons_zero, List.set_cons_succ, i64_w, i32_w]
      rfl
    refine pure_ (i := 2) (N := some 28) (v := ?_) (a' := ?_) #[true, true, true, false, false, false, false, false, false, false, false, false, false, false, false, false, false, false, false, false, false, false, false, false, false, false, false, false, false, false, false, false, false, false, false, false] rfl rfl (by kernel_rfl) (fun _ _ _ h => h) (Or.inl ⟨by rfl, ?_⟩) ?_ ?_
    rotate_left
    · intro w'
      go_simp
      with_reducible rfl
    rotate_left
    · simp only [Act.put, List.setIfInBounds_toArray, List.set_cons_zero, List.set_cons_succ, i64_w, i32_w]
      rfl
    refine pure_ (i := 3) (N := some 29) (v := ?_) (a' := ?_) #[true, true, true, true, false, false, false, false, false, false, false, false, false, false, false, false, false, false, false, false, false, false, false, false, false, false, false, false, false, false, false, false, false, false, false, false] rfl rfl (by kernel_rfl) (fun _ _ _ h => h) (Or.inl ⟨by rfl, ?_⟩) ?_ ?_
    rotate_left
    · intro w'
      go_simp
      with_reducible rfl
    rotate_left
    · simp only [Act.put, List.setIfInBounds_toArray, List.set_cons_zero, List.set_cons_succ, i64_w, i32_w]
      rfl
    refine one_ (i := 4) (N := some 30) #[true, true, true, true, true, false, false, false, false, false, false, false, false, false, false, false, false, false, false, false, false, false, false, false, false, false, false, false, false, false, false, false, false, false, false, false] rfl rfl (by kernel_rfl) (by decide) (fun K hK => ?_)
    refine goes_ Tryd.func27 (by kernel_rfl) rfl #[.slice A l.length c, .slice Am m.length cm] (by rfl) rfl rfl (by simp only [List.map_toArray, List.map_cons, List.map_nil]; rfl) ?_
    refine (DifferR_calls l m A Am c cm _ (HF.out.1.next hHeld).row (HF.out.1.next hHeld).rom HL.out.2.2.2.2.1 HL.out.2.2.2.2.2.1 ks HF.out.2.2.2.1).mono ?_
    rintro e wt ⟨A8, c8, rfl, hr8, hb8⟩
    have H8 := Aside0.mk hr8
    clear hr8
    refine ⟨_, rfl, ?_⟩
    refine hK.out _ _ (below_tr hHeld hb8 hHeld.size) (fun hHeld => ?_)
    clear hK K
    refine norm_ (a' := ?_) ?_ ?_
    rotate_left
    · show Act.put _ (some 30) _ = _
      simp only [Act.put, List.setIfInBounds_toArray, List.set_cons_zero, List.set_cons_succ, i64_w, i32_w]
      rfl
    refine one_ (i := 5) (N := some 31) #[true, true, true, true, true, true, false, false, false, false, false, false, false, false, false, false, false, false, false, false, false, false, false, false, false, false, false, false, false, false, false, false, false, false, false, false] rfl rfl (by kernel_rfl) (by decide) (fun K hK => ?_)
    refine goes_ Tryd.func26 (by kernel_rfl) rfl #[.slice A4 ks.length c4, .slice A8 ks.length c8] (by rfl) rfl rfl (by simp only [List.map_toArray, List.map_cons, List.map_nil]; rfl) ?_
    refine (SameK_calls ks A4 A8 c4 c8 _ (HF.out.1.next hHeld).k8 H8.out (by omega)).mono ?_
    rintro e wu ⟨rfl, hb9⟩
    refine ⟨_, rfl, ?_⟩
    refine hK.out _ _ (below_tr hHeld hb9 hHeld.size) (fun hHeld => ?_)
    clear hK K
    refine norm_ (a' := ?_) ?_ ?_
    rotate_left
    · show Act.put _ (some 31) _ = _
      simp only [Act.put, List.setIfInBounds_toArray, List.set_cons_zero, List.set_cons_succ, i64_w, i32_w]
      rfl
    refine pure_ (i := 6) (N := some 32) (v := ?_) (a' := ?_) #[true, true, true, true, true, true, true, false, false, false, false, false, false, false, false, false, false, false, false, false, false, false, false, false, false, false, false, false, false, false, false, false, false, false, false, false] rfl rfl (by kernel_rfl) (fun _ _ _ h => h) (Or.inl ⟨by rfl, ?_⟩) ?_ ?_
    rotate_left
    · intro w'
      go_simp
      with_reducible rfl
    rotate_left
    · simp only [Act.put, List.setIfInBounds_toArray, List.set_cons_zero, List.set_cons_succ, i64_w, i32_w]
      rfl
    refine pure_ (i := 7) (N := some 33) (v := ?_) (a' := ?_) #[true, true, true, true, true, true, true, true, false, false, false, false, false, false, false, false, false, false, false, false, false, false, false, false, false, false, false, false, false, false, false, false, false, false, false, false] rfl rfl (by kernel_rfl) (fun _ _ _ h => h) (Or.inl ⟨by rfl, ?_⟩) ?_ ?_
    rotate_left
    · intro w'
      go_simp
      with_reducible rfl
    rotate_left
    · simp only [Act.put, List.setIfInBounds_toArray, List.set_cons_zero, List.set_cons_succ, i64_w, i32_w]
      rfl
    refine take_ (i := 8) (N := some 34) (v := ?_) (a' := ?_) #[true, true, true, true, true, true, true, true, true, false, false, false, false, false, false, false, false, false, false, false, false, false, false, false, false, false, false, false, false, false, false, false, false, false, false, false] rfl rfl (by kernel_rfl) (fun _ _ _ h => h) (Or.inl ⟨by rfl, ?_⟩) hHeld ?_ ?_
    rotate_left
    · intro w' hS
      have hx := (HCC.out w' hS).1
      go_simp
      with_reducible rfl
    rotate_left
    · simp only [Act.put, List.setIfInBounds_toArray, List.set_cons_zero, List.set_cons_succ, i64_w, i32_w]
      rfl
    refine pure_ (i := 9) (N := some 35) (v := ?_) (a' := ?_) #[true, true, true, true, true, true, true, true, true, true, false, false, false, false, false, false, false, false, false, false, false, false, false, false, false, false, false, false, false, false, false, false, false, false, false, false] rfl rfl (by kernel_rfl) (fun _ _ _ h => h) (Or.inl ⟨by rfl, ?_⟩) ?_ ?_
    rotate_left
    · intro w'
      go_simp
      with_reducible rfl
    rotate_left
    · simp only [Act.put, List.setIfInBounds_toArray, List.set_cons_zero, List.set_cons_succ, i64_w, i32_w]
      rfl
    refine take_ (i := 10) (N := some 36) (v := ?_) (a' := ?_) #[true, true, true, true, true, true, true, true, true, true, true, false, false, false, false, false, false, false, false, false, false, false, false, false, false, false, false, false, false, false, false, false, false, false, false, false] rfl rfl (by kernel_rfl) (fun _ _ _ h => h) (Or.inl ⟨by rfl, ?_⟩) hHeld ?_ ?_
    rotate_left
    · intro w' hS
      have hx := (HCC.out w' hS).2.2.1
      go_simp
      with_reducible rfl
    rotate_left
    · simp only [Act.put, List.setIfInBounds_toArray, List.set_cons_zero, List.set_cons_succ, i64_w, i32_w]
      rfl
    refine one_ (i := 11) (N := some 37) #[true, true, true, true, true, true, true, true, true, true, true, true, false, false, false, false, false, false, false, false, false, false, false, false, false, false, false, false, false, false, false, false, false, false, false, false] rfl rfl (by kernel_rfl) (by decide) (fun K hK => ?_)
    refine goes_ Tryd.func26 (by kernel_rfl) rfl #[.slice A4 ks.length c4, .slice A5 ks.length c5] (by rfl) rfl rfl (by simp only [List.map_toArray, List.map_cons, List.map_nil]; rfl) ?_
    refine (SameK_calls ks A4 A5 c4 c5 _ (HF.out.1.next hHeld).k8 (HF.out.1.next hHeld).k9 (by omega)).mono ?_
    rintro e wv ⟨rfl, hb10⟩
    refine ⟨_, rfl, ?_⟩
    refine hK.out _ _ (below_tr hHeld hb10 hHeld.size) (fun hHeld => ?_)
    clear hK K
    refine norm_ (a' := ?_) ?_ ?_
    rotate_left
    · show Act.put _ (some 37) _ = _
      simp only [Act.put, List.setIfInBounds_toArray, List.set_cons_zero, List.set_cons_succ, i64_w, i32_w]
      rfl
    refine pure_ (i := 12) (N := some 38) (v := ?_) (a' := ?_) #[true, true, true, true, true, true, true, true, true, true, true, true, true, false, false, false, false, false, false, false, false, false, false, false, false, false, false, false, false, false, false, false, false, false, false, false] rfl rfl (by kernel_rfl) (fun _ _ _ h => h) (Or.inl ⟨by rfl, ?_⟩) ?_ ?_
    rotate_left
    · intro w'
      go_simp
      with_reducible rfl
    rotate_left
    · simp only [Act.put, List.setIfInBounds_toArray, List.set_cons_zero, List.set_cons_succ, i64_w, i32_w]
      rfl
    refine pure_ (i := 13) (N := some 39) (v := ?_) (a' := ?_) #[true, true, true, true, true, true, true, true, true, true, true, true, true, true, false, false, false, false, false, false, false, false, false, false, false, false, false, false, false, false, false, false, false, false, false, false] rfl rfl (by kernel_rfl) (fun _ _ _ h => h) (Or.inl ⟨by rfl, ?_⟩) ?_ ?_
    rotate_left
    · intro w'
      go_simp
      with_reducible rfl
    rotate_left
    · simp only [Act.put, List.setIfInBounds_toArray, List.set_cons_zero, List.set_cons_succ, i64_w, i32_w]
      rfl
    refine pure_ (i := 14) (N := some 40) (v := ?_) (a' := ?_) #[true, true, true, true, true, true, true, true, true, true, true, true, true, true, true, false, false, false, false, false, false, false, false, false, false, false, false, false, false, false, false, false, false, false, false, false] rfl rfl (by kernel_rfl) (fun _ _ _ h => h) (Or.inl ⟨by rfl, ?_⟩) ?_ ?_
    rotate_left
    · intro w'
      go_simp
      with_reducible rfl
    rotate_left
    · simp only [Act.put, List.setIfInBounds_toArray, List.set_cons_zero, List.set_cons_succ, i64_w, i32_w]
      rfl
    refine take_ (i := 15) (N := some 41) (v := ?_) (a' := ?_) #[true, true, true, true, true, true, true, true, true, true, true, true, true, true, true, true, false, false, false, false, false, false, false, false, false, false, false, false, false, false, false, false, false, false, false, false] rfl rfl (by kernel_rfl) (fun _ _ _ h => h) (Or.inl ⟨by rfl, ?_⟩) hHeld ?_ ?_
    rotate_left
    · intro w' hS
      have hx := (HCC.out w' hS).2.1
      go_simp
      with_reducible rfl
    rotate_left
    · simp only [Act.put, List.setIfInBounds_toArray, List.set_cons_zero, List.set_cons_succ, i64_w, i32_w]
      rfl
    refine pure_ (i := 16) (N := some 42) (v := ?_) (a' := ?_) #[true, true, true, true, true, true, true, true, true, true, true, true, true, true, true, true, true, false, false, false, false, false, false, false, false, false, false, false, false, false, false, false, false, false, false, false] rfl rfl (by kernel_rfl) (fun _ _ _ h => h) (Or.inl ⟨by rfl, ?_⟩) ?_ ?_
    rotate_left
    · intro w'
      go_simp
      with_reducible rfl
    rotate_left
    · simp only [Act.put, List.setIfInBounds_toArray, List.set_cons_zero, List.set_cons_succ, i64_w, i32_w]
      rfl
    refine take_ (i := 17) (N := some 43) (v := ?_) (a' := ?_) #[true, true, true, true, true, true, true, true, true, true, true, true, true, true, true, true, true, true, false, false, false, false, false, false, false, false, false, false, false, false, false, false, false, false, false, false] rfl rfl (by kernel_rfl) (fun _ _ _ h => h) (Or.inl ⟨by rfl, ?_⟩) hHeld ?_ ?_
    rotate_left
    · intro w' hS
      have hx := (HCC.out w' hS).2.2.2
      go_simp
      with_reducible rfl
    rotate_left
    · simp only [Act.put, List.setIfInBounds_toArray, List.set_cons_zero, List.set_cons_succ, i64_w, i32_w]
      rfl
    refine pure_ (i := 18) (N := some 44) (v := ?_) (a' := ?_) #[true, true, true, true, true, true, true, true, true, true, true, true, true, true, true, true, true, true, true, false, false, false, false, false, false, false, false, false, false, false, false, false, false, false, false, false] rfl rfl (by kernel_rfl) (fun _ _ _ h => h) (Or.inl ⟨by rfl, ?_⟩) ?_ ?_
    rotate_left
    · intro w'
      go_simp
      with_reducible rfl
    rotate_left
    · simp only [Act.put, List.setIfInBounds_toArray, List.set_cons_zero, List.set_cons_succ, i64_w, i32_w]
      rfl
    refine pure_ (i := 19) (N := some 45) (v := ?_) (a' := ?_) #[true, true, true, true, true, true, true, true, true, true, true, true, true, true, true, true, true, true, true, true, false, false, false, false, false, false, false, false, false, false, false, false, false, false, false, false] rfl rfl (by kernel_rfl) (fun _ _ _ h => h) (Or.inl ⟨by rfl, ?_⟩) ?_ ?_
    rotate_left
    · intro w'
      go_simp
      with_reducible rfl
    rotate_left
    · simp only [Act.put, List.setIfInBounds_toArray, List.set_cons_zero, List.set_cons_succ, i64_w, i32_w]
      rfl
    refine pure_ (i := 20) (N := some 46) (v := ?_) (a' := ?_) #[true, true, true, true, true, true, true, true, true, true, true, true, true, true, true, true, true, true, true, true, true, false, false, false, false, false, false, false, false, false, false, false, false, false, false, false] rfl rfl (by kernel_rfl) (fun _ _ _ h => h) (Or.inl ⟨by rfl, ?_⟩) ?_ ?_
    rotate_left
    · intro w'
      go_simp
      with_reducible rfl
    rotate_left
    · simp only [Act.put, List.setIfInBounds_toArray, List.set_cons_zero, List.set_cons_succ, i64_w, i32_w]
      rfl
    refine pure_ (i := 21) (N := some 47) (v := ?_) (a' := ?_) #[true, true, true, true, true, true, true, true, true, true, true, true, true, true, true, true, true, true, true, true, true, true, false, false, false, false, false, false, false, false, false, false, false, false, false, false] rfl rfl (by kernel_rfl) (fun _ _ _ h => h) (Or.inl ⟨by rfl, ?_⟩) ?_ ?_
    rotate_left
    · intro w'
      go_simp
      with_reducible rfl
    rotate_left
    · simp only [Act.put, List.setIfInBounds_toArray, List.set_cons_zero, List.set_cons_succ, i64_w, i32_w]
      rfl
    refine pure_ (i := 23) (N := some 49) (v := ?_) (a' := ?_) #[true, true, true, true, true, true, true, true, true, true, true, true, true, true, true, true, true, true, true, true, true, true, false, true, false, false, false, false, false, false, false, false, false, false, false, false] rfl rfl (by kernel_rfl) (fun _ _ _ h => h) (Or.inl ⟨by rfl, ?_⟩) ?_ ?_
    rotate_left
    · intro w'
      go_simp
      with_reducible rfl
    rotate_left
    · simp only [Act.put, List.setIfInBounds_toArray, List.set_cons_zero, List.set_cons_succ, i64_w, i32_w]
      rfl
    refine pure_ (i := 26) (N := some 52) (v := ?_) (a' := ?_) #[true, true, true, true, true, true, true, true, true, true, true, true, true, true, true, true, true, true, true, true, true, true, false, true, false, false, true, false, false, false, false, false, false, false, false, false] rfl rfl (by kernel_rfl) (fun _ _ _ h => h) (Or.inl ⟨by rfl, ?_⟩) ?_ ?_
    rotate_left
    · intro w'
      go_simp
      with_reducible rfl
    rotate_left
    · simp only [Act.put, List.setIfInBounds_toArray, List.set_cons_zero, List.set_cons_succ, i64_w, i32_w]
      rfl
    refine take_ (i := 27) (N := some 53) (v := ?_) (a' := ?_) #[true, true, true, true, true, true, true, true, true, true, true, true, true, true, true, true, true, true, true, true, true, true, false, true, false, false, true, true, false, false, false, false, false, false, false, false] rfl rfl (by kernel_rfl) (fun _ _ _ h => h) (Or.inl ⟨by rfl, ?_⟩) hHeld ?_ ?_
    rotate_left
    · intro w' hS
      have hx := (HCC.out w' hS).1
      go_simp
      with_reducible rfl
    rotate_left
    · simp only [Act.put, List.setIfInBounds_toArray, List.set_cons_zero, List.set_cons_succ, i64_w, i32_w]
      rfl
    refine pure_ (i := 28) (N := some 54) (v := ?_) (a' := ?_) #[true, true, true, true, true, true, true, true, true, true, true, true, true, true, true, true, true, true, true, true, true, true, false, true, false, false, true, true, true, false, false, false, false, false, false, false] rfl rfl (by kernel_rfl) (fun _ _ _ h => h) (Or.inl ⟨by rfl, ?_⟩) ?_ ?_
    rotate_left
    · intro w'
      go_simp
      with_reducible rfl
    rotate_left
    · simp only [Act.put, List.setIfInBounds_toArray, List.set_cons_zero, List.set_cons_succ, i64_w, i32_w]
      rfl
    refine pure_ (i := 29) (N := some 55) (v := ?_) (a' := ?_) #[true, true, true, true, true, true, true, true, true, true, true, true, true, true, true, true, true, true, true, true, true, true, false, true, false, false, true, true, true, true, false, false, false, false, false, false] rfl rfl (by kernel_rfl) (fun _ _ _ h => h) (Or.inl ⟨by rfl, ?_⟩) ?_ ?_
    rotate_left
    · intro w'
      go_simp
      with_reducible rfl
    rotate_left
    · simp only [Act.put, List.setIfInBounds_toArray, List.set_cons_zero, List.set_cons_succ, i64_w, i32_w]
      rfl
    refine one_ (i := 22) (N := some 48) #[true, true, true, true, true, true, true, true, true, true, true, true, true, true, true, true, true, true, true, true, true, true, true, true, false, false, true, true, true, true, false, false, false, false, false, false] rfl rfl (by kernel_rfl) (by decide) (fun K hK => ?_)
    refine goes_ Tryd.func12 (by kernel_rfl) rfl #[.slice A l.length c] (by rfl) rfl rfl (by simp only [List.map_toArray, List.map_cons, List.map_nil]; rfl) ?_
    refine (RootR_calls l A c _ (HF.out.1.next hHeld).words (HF.out.1.next hHeld).row HL.out.2.2.1 r1 HD.out.2.2.1).mono ?_
    rintro e ww ⟨rfl, hb11⟩
    refine ⟨_, rfl, ?_⟩
    refine hK.out _ _ (below_tr hHeld hb11 hHeld.size) (fun hHeld => ?_)
    clear hK K
    refine norm_ (a' := ?_) ?_ ?_
    rotate_left
    · show Act.put _ (some 48) _ = _
      simp only [Act.put, List.setIfInBounds_toArray, List.set_cons_zero, List.set_cons_succ, i64_w, i32_w]
      rfl
    refine one_ (i := 24) (N := some 50) #[true, true, true, true, true, true, true, true, true, true, true, true, true, true, true, true, true, true, true, true, true, true, true, true, true, false, true, true, true, true, false, false, false, false, false, false] rfl rfl (by kernel_rfl) (by decide) (fun K hK => ?_)
    refine goes_ Tryd.func12 (by kernel_rfl) rfl #[.slice Am m.length cm] (by rfl) rfl rfl (by simp only [List.map_toArray, List.map_cons, List.map_nil]; rfl) ?_
    refine (RootR_calls m Am cm _ (HF.out.1.next hHeld).words (HF.out.1.next hHeld).rom HL.out.2.2.2.1 r2 HD.out.2.2.2).mono ?_
    rintro e wx ⟨rfl, hb12⟩
    refine ⟨_, rfl, ?_⟩
    refine hK.out _ _ (below_tr hHeld hb12 hHeld.size) (fun hHeld => ?_)
    clear hK K
    refine norm_ (a' := ?_) ?_ ?_
    rotate_left
    · show Act.put _ (some 50) _ = _
      simp only [Act.put, List.setIfInBounds_toArray, List.set_cons_zero, List.set_cons_succ, i64_w, i32_w]
      rfl
    refine pure_ (i := 25) (N := some 51) (v := .bool t) (a' := ?_) #[true, true, true, true, true, true, true, true, true, true, true, true, true, true, true, true, true, true, true, true, true, true, true, true, true, true, true, true, true, true, false, false, false, false, false, false] rfl rfl (by kernel_rfl) (fun _ _ _ h => h) (Or.inl ⟨by rfl, fun w' => yield_eql _ _ _ _ rfl _ _ rfl rfl gt_S (HF.out.2.2.2.2 w')⟩) ?_ ?_
    rotate_left
    · simp only [Act.put, List.setIfInBounds_toArray, List.set_cons_zero, List.set_cons_succ, i64_w, i32_w]
      rfl
    refine pure_ (i := 30) (N := some 56) (v := ?_) (a' := ?_) #[true, true, true, true, true, true, true, true, true, true, true, true, true, true, true, true, true, true, true, true, true, true, true, true, true, true, true, true, true, true, true, false, false, false, false, false] rfl rfl (by kernel_rfl) (fun _ _ _ h => h) (Or.inl ⟨by rfl, ?_⟩) ?_ ?_
    rotate_left
    · intro w'
      go_simp
      with_reducible rfl
    rotate_left
    · simp only [Act.put, List.setIfInBounds_toArray, List.set_cons_zero, List.set_cons_succ, i64_w, i32_w]
      rfl
    refine pure_ (i := 31) (N := some 57) (v := ?_) (a' := ?_) #[true, true, true, true, true, true, true, true, true, true, true, true, true, true, true, true, true, true, true, true, true, true, true, true, true, true, true, true, true, true, true, true, false, false, false, false] rfl rfl (by kernel_rfl) (fun _ _ _ h => h) (Or.inl ⟨by rfl, ?_⟩) ?_ ?_
    rotate_left
    · intro w'
      go_simp
      with_reducible rfl
    rotate_left
    · simp only [Act.put, List.setIfInBounds_toArray, List.set_cons_zero, List.set_cons_succ, i64_w, i32_w]
      rfl
    refine pure_ (i := 32) (N := some 58) (v := ?_) (a' := ?_) #[true, true, true, true, true, true, true, true, true, true, true, true, true, true, true, true, true, true, true, true, true, true, true, true, true, true, true, true, true, true, true, true, true, false, false, false] rfl rfl (by kernel_rfl) (fun _ _ _ h => h) (Or.inl ⟨by rfl, ?_⟩) ?_ ?_
    rotate_left
    · intro w'
      go_simp
      with_reducible rfl
    rotate_left
    · simp only [Act.put, List.setIfInBounds_toArray, List.set_cons_zero, List.set_cons_succ, i64_w, i32_w]
      rfl
    refine pure_ (i := 33) (N := some 59) (v := ?_) (a' := ?_) #[true, true, true, true, true, true, true, true, true, true, true, true, true, true, true, true, true, true, true, true, true, true, true, true, true, true, true, true, true, true, true, true, true, true, false, false] rfl rfl (by kernel_rfl) (fun _ _ _ h => h) (Or.inl ⟨by rfl, ?_⟩) ?_ ?_
    rotate_left
    · intro w'
      go_simp
      with_reducible rfl
    rotate_left
    · simp only [Act.put, List.setIfInBounds_toArray, List.set_cons_zero, List.set_cons_succ, i64_w, i32_w]
      rfl
    refine pure_ (i := 34) (N := some 60) (v := ?_) (a' := ?_) #[true, true, true, true, true, true, true, true, true, true, true, true, true, true, true, true, true, true, true, true, true, true, true, true, true, true, true, true, true, true, true, true, true, true, true, false] rfl rfl (by kernel_rfl) (fun _ _ _ h => h) (Or.inl ⟨by rfl, ?_⟩) ?_ ?_
    rotate_left
    · intro w'
      go_simp
      with_reducible rfl
    rotate_left
    · simp only [Act.put, List.setIfInBounds_toArray, List.set_cons_zero, List.set_cons_succ, i64_w, i32_w]
      rfl
    have HFIN := Aside0.mk (HF.out.1.next hHeld).below
    clear hHeld
    refine tail_ 35 (by kernel_rfl) ?_
    simp only [List.toList_toArray, List.drop_succ_cons, List.drop_zero]
    go_wp2
    go_ret
    exact ⟨rfl, HFIN.out⟩
end Go.Proofs.YtanabbjakacgbaaDoor.Sp

