/- Put together by this session's program out of: Ta Pd Gv Tb. -/
import Derived.Test.YtanabbjakacgbaaDoorM13
import Derived.Test.YtanabbjakacgbaaDoorM15
namespace Go.Proofs.YtanabbjakacgbaaDoor.Sp
open Go.RowKit Go.Proofs.YtanabbjakacgbaaDoorW.PrintWords Go.Proofs.YtanabbjakacgbaaDoorW.PrintLast Go.Proofs.YtanabbjakacgbaaDoorW.PrintMore Go.Proofs.YtanabbjakacgbaaDoor.PM
set_option linter.unusedVariables false
set_option linter.unusedSimpArgs false
set_option maxRecDepth 100000
attribute [local go_sem] Oper.semAt_some
def difStep (b : List Lf) (acc : List Lf) (x : Lf) : List Lf := if x ∈ b then acc else putOf acc x
def difGo (b acc l : List Lf) : List Lf := l.foldl (difStep b) acc
def difLs (a b : List Lf) : List Lf := difGo a (difGo b [] a) b
def differOf (a b : List Lf) : List ByteArray := (difLs a b).map (·.k)
theorem difGo_succ {l : List Lf} {n : Nat} (hn : n < l.length) (b acc : List Lf) : difGo b acc (l.take (n + 1)) = difStep b (difGo b acc (l.take n)) (l.getD n zL) := by
  rw [difGo, take_succ' zL hn, List.foldl_append]; rfl
theorem putOf_len' (x : Lf) {l : List Lf} (h : Srt l) : (putOf l x).length ≤ l.length + 1 := by
  rw [putOf_eq x h, List.length_append, List.length_cons]
  have : ∀ l : List Lf, (l.filter fun y => blt y.k x.k).length + (l.filter fun y => blt x.k y.k).length ≤ l.length := by
    intro l
    induction l with
    | nil => simp
    | cons y l ih =>
      by_cases h1 : blt y.k x.k = true
      · rw [List.filter_cons_of_pos (by simpa using h1), List.filter_cons_of_neg (by rw [blt_asym h1]; simp), List.length_cons, List.length_cons]; omega
      · rw [List.filter_cons_of_neg (by simpa using h1), List.length_cons]
        by_cases h2 : blt x.k y.k = true
        · rw [List.filter_cons_of_pos (by simpa using h2), List.length_cons]; omega
        · rw [List.filter_cons_of_neg (by simpa using h2)]; omega
  have := this l
  omega
theorem Srt.dif (b : List Lf) : ∀ (l acc : List Lf), Srt acc → Srt (difGo b acc l) ∧ (difGo b acc l).length ≤ acc.length + l.length
  | [], acc, h => ⟨h, Nat.le_refl _⟩
  | x :: l, acc, h => by
    rw [difGo, List.foldl_cons, difStep]
    by_cases hx : x ∈ b
    · rw [if_pos hx]
      have ih := Srt.dif b l acc h
      exact ⟨ih.1, by rw [List.length_cons]; have := ih.2; unfold difGo at this; omega⟩
    · rw [if_neg hx]
      have ih := Srt.dif b l _ (h.put x)
      refine ⟨ih.1, ?_⟩
      have h1 := ih.2
      have h2 := putOf_len' x h
      unfold difGo at h1
      rw [List.length_cons]; omega
theorem dif_len (b : List Lf) {acc : List Lf} (h : Srt acc) (l : List Lf) (n : Nat) : (difGo b acc (l.take n)).length ≤ acc.length + l.length := by
  have h1 := (Srt.dif b (l.take n) acc h).2
  rw [List.length_take] at h1
  omega
set_option maxHeartbeats 4000000 in
theorem Differ_calls (a b : List Lf) (A Ab : Option Addr) (ca cb : Nat) (w : World) (hra : kL.C w A a.length a) (hrb : kL.C w Ab b.length b) (hca : a.length ≤ ca) (hcb : b.length ≤ cb) (ha : a.length ≤ 5000) (hb : b.length ≤ 5000) :
    Calls Tryd.prog 27 #[.slice A a.length ca, .slice Ab b.length cb] w fun e w' => ∃ v, e = .returned v ∧ Kd.string.R 9 w' w.heap.size (fun _ => True) v (differOf a b) ∧ Below w.heap.size w w' := by
  have HS := Aside0.mk (⟨hra, hrb, hca, hcb⟩ : _ ∧ _ ∧ _ ∧ _)
  clear hra hrb hca hcb
  go_enter Tryd.func27, Tryd.ntmps27
  go_wp2_with (first
    | (refine bs0_L (wa := w) rfl rfl rfl w.heap.size (Below.refl _ _) (Nat.le_refl _) ?_; intro v0 w0 hr0 hb0 hs0; have H0 := Aside0.mk (And.intro hr0 hb0); clear hr0 hb0 hs0))
  go_loopw [5, 6] (fun v i wr => ∃ n : Nat, i = .int .i64 (n : Int) ∧ n ≤ a.length ∧ Aside0 (kL.R 33 wr w.heap.size (fun _ => True) v (difGo b [] (a.take n)) ∧ Below w.heap.size w wr)) (fun _ i _ => a.length - (intOf i).toNat)
  case atStart => exact ⟨0, rfl, by omega, H0⟩
  case round =>
    clear H0
    obtain ⟨n, rfl, hn, HR⟩ := hrel
    by_cases c5 : n < a.length
    · have c5b : (n : Int) < (a.length : Int) := by omega
      obtain ⟨y, hy⟩ : ∃ y, y = a.getD n zL := ⟨_, rfl⟩
      obtain ⟨ad, eA, hat⟩ := at_flat HS.out.1 zL (n : Int) (by omega) c5b
      subst eA
      rw [show ((n : Int).toNat) = n by omega, ← hy] at hat
      have c5c := eq_true c5b
      have c5d : ((0 : Int) ≤ (n : Int)) = True := eq_true (by omega)
      have HAT := Aside0.mk hat
      have hsu := difGo_succ c5 b []
      rw [← hy] at hsu
      have HSU := Aside0.mk hsu
      obtain ⟨A5, c7, e5⟩ := Kd.R_slice HR.out.1
      subst e5
      have hln : (difGo b [] (a.take n)).length ≤ 100000 := by have := dif_len b List.Pairwise.nil a n; simp only [List.length_nil] at this; omega
      clear hat hy hsu
      by_cases hm : y ∈ b
      · have hmd : decide (y ∈ b) = true := decide_eq_true hm
        go_wp2_with (first
          | ((with_reducible refine gate_dst (N := 21) rfl ?_); (refine wpList_loadv rfl 33 _ rfl _ rfl _ (le_L HAT.out HR.out.2 0) ?_))
          | (go_at_call 35; (with_reducible refine (Has_calls b y Ab cb wr (Kd.C_below HS.out.2.1 HR.out.2) HS.out.2.2.2 (by omega)).mono ?_); rw [hmd]; rintro e w3 ⟨rfl, hb3⟩; have H3 := Aside0.mk (⟨Kd.R_below HR.out.1 hb3, below_tr HR.out.2 hb3 HR.out.2.size⟩ : _ ∧ _); clear hb3))
        exact ⟨⟨n + 1, by simp, by omega, by rw [HSU.out, difStep, if_pos hm]; exact H3⟩, by simp [intOf]; omega⟩
      · have hmd : decide (y ∈ b) = false := decide_eq_false hm
        go_wp2_with (first
          | ((with_reducible refine gate_dst (N := 21) rfl ?_); (refine wpList_loadv rfl 33 _ rfl _ rfl _ (le_L HAT.out HR.out.2 0) ?_))
          | (go_at_call 35; (with_reducible refine (Has_calls b y Ab cb wr (Kd.C_below HS.out.2.1 HR.out.2) HS.out.2.2.2 (by omega)).mono ?_); rw [hmd]; rintro e w3 ⟨rfl, hb3⟩; have H3 := Aside0.mk (⟨Kd.R_below HR.out.1 hb3, below_tr HR.out.2 hb3 HR.out.2.size⟩ : _ ∧ _); clear hb3)
          | ((with_reducible refine gate_dst (N := 28) rfl ?_); (refine wpList_loadv rfl 33 _ rfl _ rfl _ (le_L HAT.out H3.out.2 0) ?_))
          | (go_at_call 29; (with_reducible refine (put4_calls (difGo b [] (a.take n)) y A5 c7 w3 (R_C H3.out.1).2.2 (R_C H3.out.1).2.1 hln).mono ?_); rintro e w4 ⟨v4, rfl, hv4, hb4⟩; have H4 := Aside0.mk (⟨Kd.R_lower hv4 H3.out.2.size, below_tr H3.out.2 hb4 H3.out.2.size⟩ : _ ∧ _); clear hv4 hb4))
        exact ⟨⟨n + 1, by simp, by omega, by rw [HSU.out, difStep, if_neg hm]; exact H4⟩, by simp [intOf]; omega⟩
    · obtain rfl : n = a.length := by omega
      have hsr := (Srt.dif b a [] List.Pairwise.nil).1
      obtain ⟨acc, hacc⟩ : ∃ acc, difGo b [] a = acc := ⟨_, rfl⟩
      have hal := dif_len b List.Pairwise.nil a a.length
      have H1 := HR.out
      rw [List.take_length, hacc] at H1 hal
      rw [hacc] at hsr
      simp only [List.length_nil] at hal
      have HR1 := Aside0.mk H1
      have HSR := Aside0.mk hsr
      have HAC := Aside0.mk hacc
      clear H1 hsr hacc
      go_wp2
      go_loopw [5, 7] (fun v i wq => ∃ m : Nat, i = .int .i64 (m : Int) ∧ m ≤ b.length ∧ Aside0 (kL.R 33 wq w.heap.size (fun _ => True) v (difGo a acc (b.take m)) ∧ Below w.heap.size w wq)) (fun _ i _ => b.length - (intOf i).toNat)
      case atStart => exact ⟨0, rfl, by omega, HR1⟩
      case round =>
        clear HR HR1
        obtain ⟨m, rfl, hmn, HR⟩ := hrel
        by_cases c6 : m < b.length
        · have c5b : (m : Int) < (b.length : Int) := by omega
          obtain ⟨y, hy⟩ : ∃ y, y = b.getD m zL := ⟨_, rfl⟩
          obtain ⟨ad, eA, hat⟩ := at_flat HS.out.2.1 zL (m : Int) (by omega) c5b
          subst eA
          rw [show ((m : Int).toNat) = m by omega, ← hy] at hat
          have c5c := eq_true c5b
          have c5d : ((0 : Int) ≤ (m : Int)) = True := eq_true (by omega)
          have HAT := Aside0.mk hat
          have hsu := difGo_succ c6 a acc
          rw [← hy] at hsu
          have HSU := Aside0.mk hsu
          obtain ⟨A5, c7, e5⟩ := Kd.R_slice HR.out.1
          subst e5
          have hln : (difGo a acc (b.take m)).length ≤ 100000 := by have := dif_len a HSR.out b m; omega
          clear hat hy hsu
          by_cases hm : y ∈ a
          · have hmd : decide (y ∈ a) = true := decide_eq_true hm
            go_wp2_with (first
              | ((with_reducible refine gate_dst (N := 40) rfl ?_); (refine wpList_loadv rfl 33 _ rfl _ rfl _ (le_L HAT.out HR.out.2 0) ?_))
              | (go_at_call 35; (with_reducible refine (Has_calls a y A ca _ (Kd.C_below HS.out.1 HR.out.2) HS.out.2.2.1 (by omega)).mono ?_); rw [hmd]; rintro e w3 ⟨rfl, hb3⟩; have H3 := Aside0.mk (⟨Kd.R_below HR.out.1 hb3, below_tr HR.out.2 hb3 HR.out.2.size⟩ : _ ∧ _); clear hb3))
            exact ⟨⟨m + 1, by simp, by omega, by rw [HSU.out, difStep, if_pos hm]; exact H3⟩, by simp [intOf]; omega⟩
          · have hmd : decide (y ∈ a) = false := decide_eq_false hm
            go_wp2_with (first
              | ((with_reducible refine gate_dst (N := 40) rfl ?_); (refine wpList_loadv rfl 33 _ rfl _ rfl _ (le_L HAT.out HR.out.2 0) ?_))
              | (go_at_call 35; (with_reducible refine (Has_calls a y A ca _ (Kd.C_below HS.out.1 HR.out.2) HS.out.2.2.1 (by omega)).mono ?_); rw [hmd]; rintro e w3 ⟨rfl, hb3⟩; have H3 := Aside0.mk (⟨Kd.R_below HR.out.1 hb3, below_tr HR.out.2 hb3 HR.out.2.size⟩ : _ ∧ _); clear hb3)
              | ((with_reducible refine gate_dst (N := 47) rfl ?_); (refine wpList_loadv rfl 33 _ rfl _ rfl _ (le_L HAT.out H3.out.2 0) ?_))
              | (go_at_call 29; (with_reducible refine (put4_calls (difGo a acc (b.take m)) y A5 c7 w3 (R_C H3.out.1).2.2 (R_C H3.out.1).2.1 hln).mono ?_); rintro e w4 ⟨v4, rfl, hv4, hb4⟩; have H4 := Aside0.mk (⟨Kd.R_lower hv4 H3.out.2.size, below_tr H3.out.2 hb4 H3.out.2.size⟩ : _ ∧ _); clear hv4 hb4))
            exact ⟨⟨m + 1, by simp, by omega, by rw [HSU.out, difStep, if_neg hm]; exact H4⟩, by simp [intOf]; omega⟩
        · obtain rfl : m = b.length := by omega
          have hal2 := dif_len a HSR.out b b.length
          have H1 := HR.out
          obtain ⟨L, hL⟩ : ∃ L, difGo a acc b = L := ⟨_, rfl⟩
          rw [List.take_length, hL] at H1 hal2
          obtain ⟨A5, c7, e5⟩ := Kd.R_slice H1.1
          subst e5
          have HR1 := Aside0.mk H1
          have HFIN := Aside0.mk (show differOf a b = L.map (·.k) by rw [differOf, difLs, HAC.out, hL])
          clear H1 hL HR
          obtain ⟨wr0, rfl⟩ : ∃ W, W = wr := ⟨_, rfl⟩
          go_wp2_with (first
            | (refine bs0_Str (wa := wr0) rfl rfl rfl wr0.heap.size (Below.refl _ _) (Nat.le_refl _) ?_; intro v8 w8 hr8 hb8 hs8; have H8 := Aside0.mk (And.intro hr8 hb8); clear hr8 hb8 hs8))
          go_loopw [8, 9] (fun v i wz => ∃ n : Nat, i = .int .i64 (n : Int) ∧ n ≤ L.length ∧ Aside0 (Kd.string.R 9 wz wr0.heap.size (fun _ => True) v ((L.take n).map (·.k)) ∧ Below wr0.heap.size wr0 wz)) (fun _ i _ => L.length - (intOf i).toNat)
          case atStart => exact ⟨0, rfl, by omega, H8⟩
          case round =>
            clear H8
            obtain ⟨n, rfl, hn, HR⟩ := hrel
            by_cases c6 : n < L.length
            · have c5b : (n : Int) < (L.length : Int) := by omega
              obtain ⟨y, hy⟩ : ∃ y, y = L.getD n zL := ⟨_, rfl⟩
              obtain ⟨ad, eA, hat⟩ := at_flat (R_C HR1.out.1).2.2 zL (n : Int) (by omega) c5b
              subst eA
              rw [show ((n : Int).toNat) = n by omega, ← hy] at hat
              have c5c := eq_true c5b
              have c5d : ((0 : Int) ≤ (n : Int)) = True := eq_true (by omega)
              have hx := (HR.out.2.cell (World.block_lt_of_cell? _ _ (at_L0 hat))).trans (at_L0 hat)
              have HSU := Aside0.mk (show (L.take (n + 1)).map (·.k) = (L.take n).map (·.k) ++ [y.k] by rw [take_succ' zL c6, List.map_append, ← hy]; rfl)
              have hnl : ((L.take n).map (·.k)).length ≤ 1000000 := by rw [List.length_map, List.length_take]; omega
              obtain ⟨v', hv'⟩ : ∃ v', v' = u8 := ⟨_, rfl⟩
              clear hat hy
              go_wp2_with (first
                | (refine bs1_Str rfl _ rfl y.k rfl ?_)
                | (refine app_Str (wa := wr0) rfl (.tmp 56) (.tmp 62) rfl u8 _ y.k rfl rfl wr0.heap.size HR.out.1 HR.out.2 HR.out.2.size hnl ?_; intro v1 w1 hr1 hb1 hs1; have H1 := Aside0.mk (And.intro hr1 hb1); clear hr1 hb1 hs1))
              exact ⟨⟨n + 1, by simp, by omega, by rw [HSU.out]; exact H1⟩, by simp [intOf]; omega⟩
            · obtain rfl : n = L.length := by omega
              have H1 := HR.out
              rw [List.take_length] at H1
              have HQ := Aside0.mk H1
              clear H1
              go_wp2
              go_ret
              exact ⟨_, rfl, by rw [HFIN.out]; exact Kd.R_lower HQ.out.1 HR1.out.2.size, below_tr HR1.out.2 HQ.out.2 HR1.out.2.size⟩
end Go.Proofs.YtanabbjakacgbaaDoor.Sp
namespace Go.Proofs.YtanabbjakacgbaaDoor.Sp
open Go.RowKit Go.Proofs.YtanabbjakacgbaaDoorW.PrintWords Go.Proofs.YtanabbjakacgbaaDoorW.PrintLast Go.Proofs.YtanabbjakacgbaaDoorW.PrintMore Go.Proofs.YtanabbjakacgbaaDoor.PM
set_option linter.unusedVariables false
set_option linter.unusedSimpArgs false
theorem pair_ext {α : Type} {R : α → α → Prop} (hr : ∀ a b, R a b → R b a → False) : ∀ (a b : List α), a.Pairwise R → b.Pairwise R → (∀ x, x ∈ a ↔ x ∈ b) → a = b
  | [], [], _, _, _ => rfl
  | [], y :: b, _, _, h => by have := (h y).2 List.mem_cons_self; cases this
  | x :: a, [], _, _, h => by have := (h x).1 List.mem_cons_self; cases this
  | x :: a, y :: b, ha, hb, h => by
    have ha2 := List.pairwise_cons.1 ha
    have hb2 := List.pairwise_cons.1 hb
    have e : x = y := by
      rcases List.mem_cons.1 ((h x).1 List.mem_cons_self) with e | h1
      · exact e
      · rcases List.mem_cons.1 ((h y).2 List.mem_cons_self) with e | h2
        · exact e.symm
        · exact (hr _ _ (hb2.1 _ h1) (ha2.1 _ h2)).elim
    subst e
    rw [pair_ext hr a b ha2.2 hb2.2 (fun z => ?_)]
    constructor
    · intro hz
      rcases List.mem_cons.1 ((h z).1 (List.mem_cons_of_mem _ hz)) with rfl | h1
      · exact (hr _ _ (ha2.1 _ hz) (ha2.1 _ hz)).elim
      · exact h1
    · intro hz
      rcases List.mem_cons.1 ((h z).2 (List.mem_cons_of_mem _ hz)) with rfl | h1
      · exact (hr _ _ (hb2.1 _ hz) (hb2.1 _ hz)).elim
      · exact h1
theorem blt_asy (a b : ByteArray) (h1 : blt a b = true) (h2 : blt b a = true) : False := by rw [blt_asym h1] at h2; cases h2
theorem srt_ext {a b : List Lf} (ha : Srt a) (hb : Srt b) (h : ∀ x, x ∈ a ↔ x ∈ b) : a = b :=
  pair_ext (R := fun x y : Lf => blt x.k y.k = true) (fun _ _ h1 h2 => blt_asy _ _ h1 h2) a b ha hb h
theorem keys_ext {a b : List Lf} (ha : Srt a) (hb : Srt b) (h : ∀ k, (∃ x ∈ a, x.k = k) ↔ ∃ x ∈ b, x.k = k) : a.map (·.k) = b.map (·.k) := by
  refine pair_ext (R := fun x y : ByteArray => blt x y = true) blt_asy _ _ (List.pairwise_map.2 ha) (List.pairwise_map.2 hb) (fun k => ?_)
  rw [List.mem_map, List.mem_map]
  exact h k
theorem put_keys (x : Lf) {l : List Lf} (h : Srt l) (k : ByteArray) : (∃ y ∈ putOf l x, y.k = k) ↔ x.k = k ∨ ∃ y ∈ l, y.k = k := by
  constructor
  · rintro ⟨y, hy, rfl⟩
    rcases (mem_putOf x h y).1 hy with rfl | h1
    · exact .inl rfl
    · exact .inr ⟨y, h1.1, rfl⟩
  · rintro (rfl | ⟨y, hy, rfl⟩)
    · exact ⟨x, (mem_putOf x h x).2 (.inl rfl), rfl⟩
    · by_cases e : y.k = x.k
      · exact ⟨x, (mem_putOf x h x).2 (.inl rfl), e.symm⟩
      · exact ⟨y, (mem_putOf x h y).2 (.inr ⟨hy, e⟩), rfl⟩
theorem dif_keys (b : List Lf) (k : ByteArray) : ∀ (l acc : List Lf), Srt acc → ((∃ y ∈ difGo b acc l, y.k = k) ↔ (∃ y ∈ acc, y.k = k) ∨ ∃ y ∈ l, y ∉ b ∧ y.k = k)
  | [], acc, h => by
    constructor
    · exact .inl
    · rintro (h | ⟨y, hy, _⟩)
      · exact h
      · cases hy
  | x :: l, acc, h => by
    have hs : difGo b acc (x :: l) = difGo b (difStep b acc x) l := rfl
    rw [hs]
    have hst : Srt (difStep b acc x) := by
      rw [difStep]
      split
      · exact h
      · exact h.put x
    rw [dif_keys b k l _ hst]
    have hk : (∃ y ∈ difStep b acc x, y.k = k) ↔ (∃ y ∈ acc, y.k = k) ∨ (x ∉ b ∧ x.k = k) := by
      rw [difStep]
      by_cases hx : x ∈ b
      · rw [if_pos hx]
        constructor
        · exact .inl
        · rintro (h | ⟨h, _⟩)
          · exact h
          · exact absurd hx h
      · rw [if_neg hx, put_keys x h]
        constructor
        · rintro (h | h)
          · exact .inr ⟨hx, h⟩
          · exact .inl h
        · rintro (h | ⟨_, h⟩)
          · exact .inr h
          · exact .inl h
    rw [hk]
    constructor
    · rintro ((h | h) | ⟨y, hy, h⟩)
      · exact .inl h
      · exact .inr ⟨x, List.mem_cons_self, h⟩
      · exact .inr ⟨y, List.mem_cons_of_mem _ hy, h⟩
    · rintro (h | ⟨y, hy, h⟩)
      · exact .inl (.inl h)
      · rcases List.mem_cons.1 hy with rfl | hy
        · exact .inl (.inr h)
        · exact .inr ⟨y, hy, h⟩
theorem Srt.difLs (a b : List Lf) : Srt (difLs a b) := (Srt.dif a b _ (Srt.dif b a [] List.Pairwise.nil).1).1
theorem difLs_keys (a b : List Lf) (k : ByteArray) : (∃ y ∈ difLs a b, y.k = k) ↔ (∃ y ∈ a, y ∉ b ∧ y.k = k) ∨ ∃ y ∈ b, y ∉ a ∧ y.k = k := by
  rw [difLs, dif_keys a k b _ (Srt.dif b a [] List.Pairwise.nil).1, dif_keys b k a [] List.Pairwise.nil]
  constructor
  · rintro ((⟨y, hy, _⟩ | h) | h)
    · cases hy
    · exact .inl h
    · exact .inr h
  · rintro (h | h)
    · exact .inl (.inr h)
    · exact .inr h
theorem halfL_eq (l : List Lf) (d : Nat) (b : Int) : halfL l d b = l.filter fun x => decide (bitI (hk x.k) d = b) := by
  rw [halfL]
  induction l with
  | nil => rfl
  | cons x l ih =>
    have h : itemsOf (x :: l) = itemOf x :: itemsOf l := rfl
    rw [h, halfOf, List.filter_cons]
    by_cases hb : bitI (hk x.k) d = b
    · rw [if_pos (show decide (bitI (itemOf x).s d = b) = true from decide_eq_true hb), List.filter_cons_of_pos (by simpa using hb), List.map_cons]
      rw [halfOf] at ih
      rw [ih]; rfl
    · rw [if_neg (show ¬ decide (bitI (itemOf x).s d = b) = true by rw [show bitI (itemOf x).s d = bitI (hk x.k) d from rfl]; simp [hb]), List.filter_cons_of_neg (by simpa using hb)]
      rw [halfOf] at ih
      exact ih
theorem Srt.halfL {l : List Lf} (h : Srt l) (d : Nat) (b : Int) : Srt (halfL l d b) := by rw [halfL_eq]; exact h.filter _
theorem mem_half {l : List Lf} {d : Nat} {b : Int} {x : Lf} : x ∈ halfL l d b ↔ x ∈ l ∧ bitI (hk x.k) d = b := by
  rw [halfL_eq, List.mem_filter, decide_eq_true_eq]
theorem dif_half (a b : List Lf) (d : Nat) (t : Int) : (difLs (halfL a d t) (halfL b d t)).length = (halfL (difLs a b) d t).length := by
  have h := keys_ext (Srt.difLs (halfL a d t) (halfL b d t)) ((Srt.difLs a b).halfL d t) (fun k => ?_)
  · have := congrArg List.length h
    rwa [List.length_map, List.length_map] at this
  · rw [difLs_keys]
    have h2 : (∃ x ∈ halfL (difLs a b) d t, x.k = k) ↔ (∃ x ∈ difLs a b, x.k = k) ∧ bitI (hk k) d = t := by
      constructor
      · rintro ⟨x, hx, rfl⟩
        exact ⟨⟨x, (mem_half.1 hx).1, rfl⟩, (mem_half.1 hx).2⟩
      · rintro ⟨⟨x, hx, rfl⟩, hb⟩
        exact ⟨x, mem_half.2 ⟨hx, hb⟩, rfl⟩
    rw [h2, difLs_keys]
    constructor
    · rintro (⟨y, hy, hn, rfl⟩ | ⟨y, hy, hn, rfl⟩)
      · have hy2 := mem_half.1 hy
        exact ⟨.inl ⟨y, hy2.1, fun h => hn (mem_half.2 ⟨h, hy2.2⟩), rfl⟩, hy2.2⟩
      · have hy2 := mem_half.1 hy
        exact ⟨.inr ⟨y, hy2.1, fun h => hn (mem_half.2 ⟨h, hy2.2⟩), rfl⟩, hy2.2⟩
    · rintro ⟨⟨y, hy, hn, rfl⟩ | ⟨y, hy, hn, rfl⟩, hb⟩
      · exact .inl ⟨y, mem_half.2 ⟨hy, hb⟩, fun h => hn (mem_half.1 h).1, rfl⟩
      · exact .inr ⟨y, mem_half.2 ⟨hy, hb⟩, fun h => hn (mem_half.1 h).1, rfl⟩
theorem dif_some {a b : List Lf} (ha : Srt a) (hb : Srt b) (h : ¬ a = b) : 1 ≤ (difLs a b).length := by
  rcases Nat.eq_zero_or_pos (difLs a b).length with h0 | h0
  · refine absurd (srt_ext ha hb fun x => ?_) h
    have hn : ∀ k, ¬ ∃ y ∈ difLs a b, y.k = k := by
      rintro k ⟨y, hy, _⟩
      rw [List.length_eq_zero_iff.1 h0] at hy
      cases hy
    have hk := hn x.k
    rw [difLs_keys] at hk
    constructor
    · intro hx
      by_cases hb : x ∈ b
      · exact hb
      · exact absurd (.inl ⟨x, hx, hb, rfl⟩) hk
    · intro hx
      by_cases hb : x ∈ a
      · exact hb
      · exact absurd (.inr ⟨x, hx, hb, rfl⟩) hk
  · exact h0
theorem cmpF_most : ∀ (k d : Nat) (a b : List Lf), 256 - d = k → Srt a → Srt b → (cmpF k (itemsOf a) (itemsOf b) d).2 ≤ 2 * k * (difLs a b).length + 1
  | 0, d, a, b, hk, ha, hb => by
    rw [cmpF]
    split <;> simp
  | k + 1, d, a, b, hk, ha, hb => by
    rw [cmpF]
    by_cases hh : hashOf (itemsOf a) d = hashOf (itemsOf b) d
    · rw [if_pos hh]; simp
    · rw [if_neg hh]
      by_cases he : endsOf (itemsOf a) d = true ∨ endsOf (itemsOf b) d = true
      · rw [if_pos he]; simp
      · rw [if_neg he]
        have i0 := cmpF_most k (d + 1) (halfL a d 0) (halfL b d 0) (by omega) (ha.halfL d 0) (hb.halfL d 0)
        have i1 := cmpF_most k (d + 1) (halfL a d 1) (halfL b d 1) (by omega) (ha.halfL d 1) (hb.halfL d 1)
        rw [itemsOf_half, itemsOf_half, dif_half] at i0 i1
        have h1 := dif_some ha hb (fun e => hh (by rw [e]))
        have h2 := halfL_len (difLs a b) d
        simp only
        have e : 2 * (k + 1) * (difLs a b).length = 2 * k * (halfL (difLs a b) d 0).length + 2 * k * (halfL (difLs a b) d 1).length + 2 * (difLs a b).length := by
          rw [← h2, Nat.mul_add 2 k 1, Nat.add_mul, Nat.mul_add (2 * k)]
        omega
theorem cmpF_least : ∀ (k : Nat) (a b : List It) (d : Nat), 1 ≤ (cmpF k a b d).2
  | 0, a, b, d => by rw [cmpF]; split <;> simp
  | k + 1, a, b, d => by
    rw [cmpF]
    split
    · simp
    · split
      · simp
      · simp only; omega
def chStep (m : List Lf) (p : Int × Int) : List Lf := if p.2 % 4 = 0 then dropOf m (keyB p.1) else putOf m (lfOf p)
def chOf (l : List Lf) (b : List (Int × Int)) : List Lf := b.foldl chStep l
theorem chOf_succ {b : List (Int × Int)} {n : Nat} (hn : n < b.length) (l : List Lf) : chOf l (b.take (n + 1)) = chStep (chOf l (b.take n)) (b.getD n (0, 0)) := by
  rw [chOf, take_succ' (0, 0) hn, List.foldl_append]; rfl
theorem Srt.drop {l : List Lf} (h : Srt l) (k : ByteArray) : Srt (dropOf l k) := by rw [dropOf]; exact h.filter _
theorem Srt.ch : ∀ (b : List (Int × Int)) (l : List Lf), Srt l → Srt (chOf l b) ∧ (chOf l b).length ≤ l.length + b.length ∧ ∀ y ∈ chOf l b, y ∈ l ∨ ∃ p ∈ b, y = lfOf p
  | [], l, h => ⟨h, Nat.le_refl _, fun y hy => .inl hy⟩
  | p :: b, l, h => by
    have e : chOf l (p :: b) = chOf (chStep l p) b := rfl
    rw [e]
    have hs : Srt (chStep l p) ∧ (chStep l p).length ≤ l.length + 1 ∧ ∀ y ∈ chStep l p, y ∈ l ∨ y = lfOf p := by
      rw [chStep]
      split
      · exact ⟨h.drop _, by have := dropOf_len l (keyB p.1); omega, fun y hy => .inl (List.mem_filter.1 hy).1⟩
      · exact ⟨h.put _, putOf_len' _ h, fun y hy => ((mem_putOf _ h y).1 hy).elim .inr (fun h => .inl h.1)⟩
    obtain ⟨i1, i2, i3⟩ := Srt.ch b (chStep l p) hs.1
    refine ⟨i1, by rw [List.length_cons]; omega, fun y hy => ?_⟩
    rcases i3 y hy with h1 | ⟨q, hq, h1⟩
    · rcases hs.2.2 y h1 with h2 | h2
      · exact .inl h2
      · exact .inr ⟨p, List.mem_cons_self, h2⟩
    · exact .inr ⟨q, List.mem_cons_of_mem _ hq, h1⟩
theorem made_le (a : List (Int × Int)) : (madeOf a).length ≤ a.length := by
  have : ∀ (a : List (Int × Int)) (l : List Lf), Srt l → (a.foldl (fun l p => putOf l (lfOf p)) l).length ≤ l.length + a.length := by
    intro a
    induction a with
    | nil => exact fun l h => Nat.le_refl _
    | cons p a ih =>
      intro l h
      have h1 := ih _ (h.put (lfOf p))
      have h2 := putOf_len' (lfOf p) h
      rw [List.foldl_cons, List.length_cons]; omega
  have h := this a [] List.Pairwise.nil
  simp only [List.length_nil, Nat.zero_add] at h
  exact h
theorem ch_sm (a b : List (Int × Int)) (n : Nat) (hn : n ≤ 4) : (chOf (madeOf (a.take 12)) (b.take n)).length ≤ 16 ∧ SmL (chOf (madeOf (a.take 12)) (b.take n)) := by
  obtain ⟨_, h2, h3⟩ := Srt.ch (b.take n) (madeOf (a.take 12)) (Srt.made _)
  have h4 := made_le (a.take 12)
  rw [List.length_take] at h2 h4
  refine ⟨by omega, by omega, fun y hy => ?_⟩
  rcases h3 y hy with h | ⟨p, _, rfl⟩
  · exact (made_sm a 12 (by decide)).2 y h
  · show (keyB p.1).size ≤ 100000
    have : (keyB p.1).size = 4 := rfl
    omega
theorem work_says (a b : List (Int × Int)) : 1 ≤ (diffOf (madeOf (a.take 12)) (chOf (madeOf (a.take 12)) (b.take 4))).2 ∧ (diffOf (madeOf (a.take 12)) (chOf (madeOf (a.take 12)) (b.take 4))).2 ≤ 512 * (differOf (madeOf (a.take 12)) (chOf (madeOf (a.take 12)) (b.take 4))).length + 1 := by
  refine ⟨cmpF_least _ _ _ _, ?_⟩
  have h := cmpF_most 256 0 (madeOf (a.take 12)) (chOf (madeOf (a.take 12)) (b.take 4)) rfl (Srt.made _) (Srt.ch (b.take 4) _ (Srt.made _)).1
  rw [differOf, List.length_map]
  have e : (diffOf (madeOf (a.take 12)) (chOf (madeOf (a.take 12)) (b.take 4))).2 = (cmpF 256 (itemsOf (madeOf (a.take 12))) (itemsOf (chOf (madeOf (a.take 12)) (b.take 4))) 0).2 := rfl
  rw [e]
  omega
end Go.Proofs.YtanabbjakacgbaaDoor.Sp
namespace Go.Proofs.YtanabbjakacgbaaDoor.Grow
open Go Go.RowKit Go.Proofs.YtanabbjakacgbaaDoorW.PrintWords Go.Proofs.YtanabbjakacgbaaDoorW.PrintLast
set_option linter.unusedVariables false
set_option linter.unusedSimpArgs false
section
variable {P : Program} {ops : Array Oper} {Q : Exit → Act → World → Prop} {S : World → Prop} {ds : List Nat}
def growNB (ops : Array Oper) (n : Nat) (l0 l1 : Array Bool) : Bool :=
  decide (n < ops.size) && decide (l0.size = ops.size) && decide (l1.size = ops.size) &&
  ((List.range n).all fun i => l0.getD i true || match ops[i]? with
    | some o => o.dst.isSome && o.guard.isNone && (o.after.all fun e => !Region.binds .any e || l0.getD e.on false || decide (e.on < i))
    | none => false) &&
  ((List.range n).all fun i => (List.range n).all fun k => decide (i = k) || decide (dstN ops i ≠ dstN ops k)) &&
  ((List.range ops.size).all fun i => decide (i < n) || l0.getD i true || (List.range n).all fun j => l0.getD j true || Region.reachB .any ops j 8 i) && Region.closedB .any ops l0 &&
  ((List.range ops.size).all fun i => l1.getD i false == (decide (i < n) || l0.getD i false))
structure GrowN (ops : Array Oper) (n : Nat) (l0 l1 : Array Bool) : Prop where
  lt : n < ops.size
  sz : l0.size = ops.size
  sz1 : l1.size = ops.size
  at_ : ∀ i, i < n → l0.getD i true = false → ∃ o, ops[i]? = some o ∧ o.dst = some (dstN ops i) ∧ o.guard = none ∧ (∀ e ∈ o.after, Region.binds .any e = true → l0.getD e.on false = true ∨ e.on < i)
  dis : ∀ j k, j < n → k < n → dstN ops j = dstN ops k → j = k
  wait : ∀ i, i < ops.size → l0.getD i true = false → ¬ i < n → ∀ j, j < n → l0.getD j true = false → Region.reachB .any ops j 8 i = true
  closed : ListedClosed .any ops l0
  fin : ∀ i, i < ops.size → l1.getD i false = (decide (i < n) || l0.getD i false)
theorem growNB_spec {n : Nat} {l0 l1 : Array Bool} (h : growNB ops n l0 l1 = true) : GrowN ops n l0 l1 := by
  simp only [growNB, Bool.and_eq_true, decide_eq_true_eq, List.all_eq_true, List.mem_range, Bool.or_eq_true, beq_iff_eq] at h
  obtain ⟨⟨⟨⟨⟨⟨⟨h1, h2⟩, h3⟩, h4⟩, h5⟩, h6⟩, h8⟩, h7⟩ := h
  refine ⟨h1, h2, h3, fun i hi hu => ?_, fun j k hj hk e => ?_, fun i hi hu hn j hj huj => ?_, Region.closedB_spec h8, fun i hi => h7 i hi⟩
  · rcases h4 i hi with h | h
    · rw [hu] at h; cases h
    · cases ho : ops[i]? with
      | none => rw [ho] at h; cases h
      | some o =>
        rw [ho] at h
        simp only [Bool.and_eq_true] at h
        obtain ⟨⟨a, b⟩, c⟩ := h
        obtain ⟨N, hN⟩ := Option.isSome_iff_exists.1 a
        refine ⟨o, rfl, by simp [dstN, ho, hN], Option.isNone_iff_eq_none.1 b, fun e he hb => ?_⟩
        have := Array.all_eq_true_iff_forall_mem.1 c e he
        rw [hb] at this
        simpa using this
  · rcases h5 j hj k hk with h | h
    · exact h
    · exact absurd e h
  · rcases h6 i hi with (h | h) | h
    · exact absurd h hn
    · rw [hu] at h; cases h
    · rcases h j hj with h | h
      · rw [huj] at h; cases h
      · exact h
theorem last_of_grow3 {n fe : Nat} {l0 l1 : Array Bool} (G : GrowN ops n l0 l1) {a0 : Act} {w0 : World} (v0 : Nat → Value) (F : Nat → Value → World → Prop) (M : Nat → Bool) (hS : ∀ w, Below w0.heap.size w0 w → S w) (hmono : ∀ i v w w', F i v w → Below w.heap.size w w' → F i v w')
    (hstep : ∀ i o, i < n → l0.getD i true = false → ops[i]? = some o → ∀ vs w, (∀ j, j < n → l0.getD j true = true → vs j = v0 j) → Below w0.heap.size w0 w → (∀ e ∈ o.after, Region.binds .any e = true → e.on < i → l0.getD e.on true = false → F e.on (vs e.on) w) → ∀ K : Act → World → Prop, (∀ v w', F i v w' → Below w.heap.size w w' → (M i = true → ∀ b, blk v = some b → w.heap.size ≤ b ∧ b < w'.heap.size) → K ((ap ops n a0 vs).put o.dst v) w') → o.wp P (ap ops n a0 vs) w K Q)
    (hend : ∀ vs w, (∀ j, j < n → l0.getD j true = true → vs j = v0 j) → Below w0.heap.size w0 w → (∀ i, i < n → l0.getD i true = false → F i (vs i) w) → (∀ i j, i < n → l0.getD i true = false → j < n → l0.getD j true = false → i ≠ j → M i = true → M j = true → ∀ b, blk (vs i) = some b → blk (vs j) ≠ some b) → wpAnyLast P .any ops Q S ds fe l1 (ap ops n a0 vs) w) :
    ∀ (f : Nat) (l : Array Bool) (vs : Nat → Value) (w : World), (List.range n).countP (fun i => !l.getD i false) = f → l.size = ops.size → ListedClosed .any ops l → (∀ j, ¬ (j < n ∧ l0.getD j true = false) → l[j]? = l0[j]?) → (∀ j, j < n → l0.getD j true = true → vs j = v0 j) → (∀ i, i < n → l0.getD i true = false → l.getD i false = true → F i (vs i) w) → Below w0.heap.size w0 w →
      (∀ i, i < n → l0.getD i true = false → l.getD i false = true → M i = true → ∀ b, blk (vs i) = some b → b < w.heap.size) → (∀ i j, i < n → l0.getD i true = false → j < n → l0.getD j true = false → l.getD i false = true → l.getD j false = true → i ≠ j → M i = true → M j = true → ∀ b, blk (vs i) = some b → blk (vs j) ≠ some b) →
      wpAnyLast P .any ops Q S ds (f + fe) l (ap ops n a0 vs) w := by
  intro f
  induction f with
  | zero =>
    intro l vs w hf hsz hcl hl hv hF hb hD1 hD2
    have hall : ∀ i, i < n → l.getD i false = true := fun i hi => by
      have := List.countP_eq_zero.1 hf i (List.mem_range.2 hi)
      simpa using this
    have e : l = l1 := by
      apply Array.ext (hsz.trans G.sz1.symm)
      intro i h1 h2
      have h3 : i < ops.size := by omega
      have h4 := G.fin i h3
      have h5 : l.getD i false = l1.getD i false := by
        rw [h4]
        by_cases hi : i < n
        · rw [hall i hi]; simp [hi]
        · rw [getD_same (hl i (fun h => hi h.1)), decide_eq_false hi, Bool.false_or]
      simpa [h1, h2] using h5
    subst e
    rw [Nat.zero_add]
    exact hend vs w hv hb (fun i hi hu => hF i hi hu (hall i hi)) (fun i j hi hui hj huj => hD2 i j hi hui hj huj (hall i hi) (hall j hj))
  | succ f ih =>
    intro l vs w hf hsz hcl hl hv hF hb hD1 hD2
    have hsz2 : ∀ i, i < n → i < l.size := fun i hi => by rw [hsz]; have := G.lt; omega
    have hdone : ∀ j, l0.getD j false = true → l.getD j false = true := fun j hj => by
      by_cases hi : j < n ∧ l0.getD j true = false
      · have h1 : j < l0.size := by rw [G.sz]; have := G.lt; omega
        have hu := hi.2
        simp [h1] at hu hj
        rw [hu] at hj; cases hj
      · rw [getD_same (hl j hi)]; exact hj
    have hun0 : ∀ j, j < n → l.getD j false = false → l0.getD j true = false := fun j hj h => by
      by_cases hi : j < n ∧ l0.getD j true = false
      · exact hi.2
      · have h2 := getD_same (d := true) (hl j hi)
        rw [← h2]
        simp [hsz2 j hj] at h ⊢
        exact h
    have hex : ∃ i, i < n ∧ l.getD i false = false := by
      have h0 : 0 < (List.range n).countP (fun i => !l.getD i false) := by omega
      obtain ⟨i, hi, hp⟩ := List.countP_pos_iff.1 h0
      exact ⟨i, List.mem_range.1 hi, by simpa using hp⟩
    have hready : Region.ready .any ops l ≠ [] := by
      have hmin : ∀ d i, i ≤ d → i < n → l.getD i false = false → Region.ready .any ops l ≠ [] := by
        intro d
        induction d with
        | zero =>
          intro i hid hi hu hne
          obtain ⟨o, ho, _, _, haf⟩ := G.at_ i hi (hun0 i hi hu)
          have : i ∈ Region.ready .any ops l := mem_ready.2 ⟨getD_in (hsz2 i hi) hu, o, ho, fun e he hbd => by
            rcases haf e he hbd with h | h
            · exact hdone _ h
            · omega⟩
          rw [hne] at this
          cases this
        | succ d ihd =>
          intro i hid hi hu
          obtain ⟨o, ho, _, _, haf⟩ := G.at_ i hi (hun0 i hi hu)
          by_cases hc : ∃ j, j < i ∧ l.getD j false = false
          · obtain ⟨j, hj, hju⟩ := hc
            exact ihd j (by omega) (by omega) hju
          · intro hne
            have : i ∈ Region.ready .any ops l := mem_ready.2 ⟨getD_in (hsz2 i hi) hu, o, ho, fun e he hbd => by
              rcases haf e he hbd with h | h
              · exact hdone _ h
              · cases h2 : l.getD e.on false with
                | true => rfl
                | false => exact absurd ⟨e.on, h, h2⟩ hc⟩
            rw [hne] at this
            cases this
      obtain ⟨i, hi, hu⟩ := hex
      exact hmin i i (Nat.le_refl _) hi hu
    obtain ⟨i0, hi0, hu0⟩ := hex
    rw [show f + 1 + fe = (f + fe) + 1 by omega]
    refine ⟨fun h => absurd h hready, fun i hi => ?_⟩
    obtain ⟨hun, o, ho, hdep⟩ := mem_ready.1 hi
    have hilt : i < ops.size := (Array.getElem?_eq_some_iff.1 ho).1
    have hin : i < n := by
      by_cases hin : i < n
      · exact hin
      · have hu : l0.getD i true = false := by rw [← getD_same (hl i (fun h => hin h.1))]; exact hun
        exact absurd hi (Region.reach_not_ready hcl (G.wait i hilt hu hin i0 hi0 (hun0 i0 hi0 hu0)) (by rw [← hu0]; have := hsz2 i0 hi0; simp [this]))
    have hui := hun0 i hin (getD_both hun)
    obtain ⟨o', ho', hdst, hgd, haf⟩ := G.at_ i hin hui
    obtain rfl : o = o' := Option.some.inj (ho.symm.trans ho')
    refine wpOp_step ho (fun K hK => ?_)
    rw [if_pos (by unfold Region.wanted; rw [hgd])]
    refine hstep i o hin hui ho vs w hv hb (fun e he hbd h1 h2 => hF e.on (by omega) h2 (hdep e he hbd)) K (fun v w' hvv hw' hM => hK _ _ ⟨fun _ _ => hS _ (hb.trans (hw'.mono hb.size)), ?_⟩)
    rw [hdst, ap_put hin G.dis]
    refine ih (l.setIfInBounds i true) (upd vs i v) w' ?_ (by rw [Array.size_setIfInBounds]; exact hsz) (fun j oj hoj hlj e he hbd => ?_) (fun j hj => ?_) (fun j hj hdj => ?_) (fun j hj huj hlj => ?_) (hb.trans (hw'.mono hb.size)) (fun j hj huj hlj hMj b hbj => ?_) (fun j k hj huj hk huk hlj hlk hjk hMj hMk b hbj hbk => ?_)
    · have hc := count_set (p := fun k => !l.getD k false) (q := fun k => !(l.setIfInBounds i true).getD k false) (i := i) (by simp [getD_both hun]) (by simp [hsz2 i hin]) (fun j hji => by show (!_) = (!_); rw [getD_set_ne false (Ne.symm hji)]) n hin
      omega
    · have hmono' : ∀ k, l.getD k false = true → (l.setIfInBounds i true).getD k false = true := fun k hk => by
        by_cases hki : k = i
        · subst hki; simp [hsz2 k hin]
        · rw [getD_set_ne false (Ne.symm hki)]; exact hk
      by_cases hji : j = i
      · subst hji
        obtain rfl : o = oj := Option.some.inj (ho.symm.trans hoj)
        exact hmono' _ (hdep e he hbd)
      · rw [getD_set_ne false (Ne.symm hji)] at hlj
        exact hmono' _ (hcl j oj hoj hlj e he hbd)
    · rw [Array.getElem?_setIfInBounds_ne (fun e => hj (by rw [← e]; exact ⟨hin, hui⟩))]
      exact hl j hj
    · rw [upd, if_neg (fun e => by rw [e, hui] at hdj; cases hdj)]
      exact hv j hj hdj
    · by_cases hji : j = i
      · subst hji
        rw [upd, if_pos rfl]
        exact hvv
      · rw [upd, if_neg hji]
        rw [getD_set_ne false (Ne.symm hji)] at hlj
        exact hmono _ _ _ _ (hF j hj huj hlj) hw'
    · by_cases hji : j = i
      · subst hji
        rw [upd, if_pos rfl] at hbj
        exact (hM hMj b hbj).2
      · rw [upd, if_neg hji] at hbj
        rw [getD_set_ne false (Ne.symm hji)] at hlj
        exact Nat.lt_of_lt_of_le (hD1 j hj huj hlj hMj b hbj) hw'.size
    · by_cases hji : j = i
      · subst hji
        rw [upd, if_pos rfl] at hbj
        rw [upd, if_neg (Ne.symm hjk)] at hbk
        rw [getD_set_ne false hjk] at hlk
        have h1 := (hM hMj b hbj).1
        have h2 := hD1 k hk huk hlk hMk b hbk
        omega
      · rw [upd, if_neg hji] at hbj
        rw [getD_set_ne false (Ne.symm hji)] at hlj
        by_cases hki : k = i
        · subst hki
          rw [upd, if_pos rfl] at hbk
          have h1 := (hM hMk b hbk).1
          have h2 := hD1 j hj huj hlj hMj b hbj
          omega
        · rw [upd, if_neg hki] at hbk
          rw [getD_set_ne false (Ne.symm hki)] at hlk
          exact hD2 j k hj huj hk huk hlj hlk hjk hMj hMk b hbj hbk
theorem makers3_ {n f fe fuel : Nat} {a0 : Act} {w0 : World} (l0 l1 : Array Bool) (hB : growNB ops n l0 l1 = true) (es : List Nat) (hes : (List.range n).map (dstN ops) = es) (hf : (List.range n).countP (fun i => !l0.getD i false) = f) (hfe : fuel = f + fe)
    (F : Nat → Value → World → Prop) (M : Nat → Bool) (hS : ∀ w, Below w0.heap.size w0 w → S w) (hmono : ∀ i v w w', F i v w → Below w.heap.size w w' → F i v w')
    (hstep : ∀ i o, i < n → l0.getD i true = false → ops[i]? = some o → ∀ vs w, (∀ j, j < n → l0.getD j true = true → vs j = a0.tmps.getD (dstN ops j) undef) → Below w0.heap.size w0 w → (∀ e ∈ o.after, Region.binds .any e = true → e.on < i → l0.getD e.on true = false → F e.on (vs e.on) w) → ∀ K : Act → World → Prop, (∀ v w', F i v w' → Below w.heap.size w w' → (M i = true → ∀ b, blk v = some b → w.heap.size ≤ b ∧ b < w'.heap.size) → K (({ a0 with tmps := fil2 a0.tmps vs es } : Act).put o.dst v) w') → o.wp P { a0 with tmps := fil2 a0.tmps vs es } w K Q)
    (hend : ∀ vs w, (∀ j, j < n → l0.getD j true = true → vs j = a0.tmps.getD (dstN ops j) undef) → Below w0.heap.size w0 w → (∀ i, i < n → l0.getD i true = false → F i (vs i) w) → (∀ i j, i < n → l0.getD i true = false → j < n → l0.getD j true = false → i ≠ j → M i = true → M j = true → ∀ b, blk (vs i) = some b → blk (vs j) ≠ some b) → wpAnyLast P .any ops Q S ds fe l1 { a0 with tmps := fil2 a0.tmps vs es } w) :
    wpAnyLast P .any ops Q S ds fuel l0 a0 w0 := by
  have G := growNB_spec hB
  have e : ∀ vs, ({ a0 with tmps := fil2 a0.tmps vs es } : Act) = ap ops n a0 vs := fun vs => by
    rw [← hes, fil2_eq]
    rfl
  have hu : ∀ i, i < n → l0.getD i true = false → l0.getD i false = true → False := fun i hi hu h => by
    have h1 : i < l0.size := by rw [G.sz]; have := G.lt; omega
    simp [h1] at hu h
    rw [hu] at h; cases h
  have H := last_of_grow3 (P := P) (Q := Q) (S := S) (ds := ds) (fe := fe) G (a0 := a0) (w0 := w0) (fun i => a0.tmps.getD (dstN ops i) undef) F M hS hmono
    (fun i o hi hu ho vs w hv hb hd K hK => by
      have := hstep i o hi hu ho vs w hv hb hd K (fun v w' h1 h2 h3 => by rw [e]; exact hK v w' h1 h2 h3)
      rwa [e] at this)
    (fun vs w hv hb hF hD => by have := hend vs w hv hb hF hD; rwa [e] at this)
    f l0 (fun i => a0.tmps.getD (dstN ops i) undef) w0 hf G.sz G.closed (fun _ _ => rfl) (fun _ _ _ => rfl) (fun i hi h1 h => (hu i hi h1 h).elim) (Below.refl _ _) (fun i hi h1 h => (hu i hi h1 h).elim) (fun i j hi h1 _ _ h => (hu i hi h1 h).elim)
  rw [ap_self a0 G.dis] at H
  rwa [hfe]
end
end Go.Proofs.YtanabbjakacgbaaDoor.Grow
namespace Go.Proofs.YtanabbjakacgbaaDoor.Sp
open Go.RowKit Go.Proofs.YtanabbjakacgbaaDoorW.PrintWords Go.Proofs.YtanabbjakacgbaaDoorW.PrintLast Go.Proofs.YtanabbjakacgbaaDoorW.PrintMore Go.Proofs.YtanabbjakacgbaaDoor.PM Go.Proofs.YtanabbjakacgbaaDoor.Grow
set_option linter.unusedVariables false
set_option linter.unusedSimpArgs false
set_option maxRecDepth 100000
attribute [local go_sem] Oper.semAt_some
theorem diffR_calls (l m : List Lf) (A A2 : Option Addr) (c c2 : Nat) (w : World) (hW : Words w) (hrl : kL.R 33 w 0 (fun _ => True) (.slice A l.length c) l) (hrm : kL.R 33 w 0 (fun _ => True) (.slice A2 m.length c2) m) (hl : SmL l) (hm : SmL m) (d : List ByteArray × Nat) (hd : diffOf l m = d) :
    Calls Tryd.prog 24 #[.slice A l.length c, .slice A2 m.length c2] w fun e w' => ∃ A' c' D, D = cF (.slice A' d.1.length c') d.2 false ∧ e = .returned (.agg D) ∧ Kd.string.R 9 w' 0 (fun _ => True) (.slice A' d.1.length c') d.1 ∧ Below w.heap.size w w' := by
  have h := diff_calls l m A A2 c c2 w hW (R_C hrl).2.2 (R_C hrm).2.2 (R_C hrl).2.1 (R_C hrm).2.1 hl hm
  rw [hd] at h
  refine h.mono ?_
  rintro e w' ⟨A', c', rfl, h1, h2⟩
  exact ⟨A', c', _, rfl, rfl, Kd.R_lower h1 (Nat.zero_le _), h2⟩
theorem DifferR_calls (l m : List Lf) (A A2 : Option Addr) (c c2 : Nat) (w : World) (hrl : kL.R 33 w 0 (fun _ => True) (.slice A l.length c) l) (hrm : kL.R 33 w 0 (fun _ => True) (.slice A2 m.length c2) m) (hl : l.length ≤ 5000) (hm : m.length ≤ 5000) (d : List ByteArray) (hd : differOf l m = d) :
    Calls Tryd.prog 27 #[.slice A l.length c, .slice A2 m.length c2] w fun e w' => ∃ A' c', e = .returned (.slice A' d.length c') ∧ Kd.string.R 9 w' 0 (fun _ => True) (.slice A' d.length c') d ∧ Below w.heap.size w w' := by
  have h := Differ_calls l m A A2 c c2 w (R_C hrl).2.2 (R_C hrm).2.2 (R_C hrl).2.1 (R_C hrm).2.1 hl hm
  rw [hd] at h
  refine h.mono ?_
  rintro e w' ⟨v, rfl, h1, h2⟩
  obtain ⟨A', c', rfl⟩ := Kd.R_slice h1
  exact ⟨A', c', rfl, Kd.R_lower h1 (Nat.zero_le _), h2⟩
theorem zero33 (w : World) : (zeroValue 33).run Tryd.prog w = .ok (.agg (cL zL)) w := by
  obtain ⟨i, hi, hz⟩ := Option.map_eq_some_iff.1 infoL
  simp only [Prod.mk.injEq] at hz
  simp [zeroValue, typeInfo, hi, hz.1, go_sem]
def leafF (p : Int × Int) (B : Nat) (i : Nat) (v : Value) (w : World) : Prop :=
  match i with
  | 5 => v = .string (keyB p.1)
  | 12 => v = .agg (cL (lfOf p))
  | _ => ∃ b, v = .pointer (some ⟨b, 0, none⟩) ∧ B ≤ b ∧ w.heap[b]? = some (.cells (cL zL) 33 (0, 0))
theorem leafF_mono (p : Int × Int) (B : Nat) : ∀ i v w w', leafF p B i v w → Below w.heap.size w w' → leafF p B i v w' := by
  intro i v w w' h hb
  unfold leafF at h ⊢
  split at h
  · exact h
  · exact h
  · obtain ⟨b, h1, h2, h3⟩ := h
    exact ⟨b, h1, h2, at_next h3 hb⟩
structure WkSt (w0 : World) (A : Option Addr) (c : Nat) (l : List Lf) (v : Value) (m : List Lf) (w : World) : Prop where
  below : Below w0.heap.size w0 w
  words : Words w
  row : kL.R 33 w 0 (fun _ => True) (.slice A l.length c) l
  ch : kL.R 33 w 0 (fun _ => True) v m
theorem WkSt.next {w0 w w' : World} {A : Option Addr} {c : Nat} {l m : List Lf} {v : Value} (h : WkSt w0 A c l v m w) (hb : Below w.heap.size w w') : WkSt w0 A c l v m w' :=
  ⟨h.below.trans (hb.mono h.below.size), h.words.below hb, Kd.R_below h.row hb, Kd.R_below h.ch hb⟩
theorem cell_Fn {w : World} {g t : Nat} {v : Value} {n : Int} {b : Bool} {fr : Nat × Nat} {D : Array Value} (hD : D = cF v n b) (hg : w.heap[g]? = some (.cells D t fr)) : w.cell? ⟨g, 1, none⟩ = some (.int .i64 n) := cell_F1 hD hg
set_option maxHeartbeats 4000000 in
theorem work_calls (a b : List (Int × Int)) (ha : Oct a) (hbo : Oct b) (A0 Ab : Option Addr) (c0 cb : Nat) (w : World) (hW : Words w) (hr : kQ.C w A0 a.length a) (hc : a.length ≤ c0) (hrb : kQ.C w Ab b.length b) (hcb : b.length ≤ cb) :
    Calls Tryd.prog 7 #[.slice A0 a.length c0, .slice Ab b.length cb] w fun e w' => e = .returned (.bool true) ∧ Below w.heap.size w w' := by
  have HS := Aside0.mk (⟨hr, hc, hrb, hcb⟩ : _ ∧ _ ∧ _ ∧ _)
  have HW := Aside0.mk hW
  have HA := Aside0.mk (And.intro ha hbo)
  obtain ⟨l, hl⟩ : ∃ l, madeOf (a.take 12) = l := ⟨_, rfl⟩
  have HL := Aside0.mk (⟨hl, by rw [← hl]; exact made_sm a 12 (by decide), by rw [← hl]; have := made_le (a.take 12); rw [List.length_take] at this; omega⟩ : madeOf (a.take 12) = l ∧ SmL l ∧ l.length ≤ 12)
  have hcm : ∀ n, n ≤ 4 → (chOf l (b.take n)).length ≤ 16 ∧ SmL (chOf l (b.take n)) := fun n hn => by rw [← hl]; exact ch_sm a b n hn
  have HCM := Aside0.mk hcm
  have hbl : b.length ≤ 9223372036854775807 := by have := hrb.2.1; omega
  have hws := work_says a b
  rw [hl] at hws
  have HWS := Aside0.mk hws
  clear hr hc hW ha hl hrb hcb hbo hcm hws
  go_enter Tryd.func7, Tryd.ntmps7
  go_wp2_with (first
    | (go_at_call 10; (with_reducible refine (sanity_calls w HW.out).mono ?_); rintro e w1 ⟨rfl, hb1⟩; have H1 := Aside0.mk (⟨hb1, HW.out.below hb1, Kd.C_below HS.out.1 hb1⟩ : _ ∧ _ ∧ _); clear hb1)
    | (go_at_call 11; (with_reducible refine (Made12_calls a HA.out.1 A0 c0 w1 H1.out.2.2 HS.out.2.1 l HL.out.1).mono ?_); rintro e w2 ⟨A, c, rfl, hr2, hb2⟩; have H2 : Aside0 (WkSt w A c l (.slice A l.length c) l w2) := Aside0.mk ⟨below_tr H1.out.1 hb2 H1.out.1.size, H1.out.2.1.below hb2, hr2, hr2⟩; clear hr2 hb2))
  go_loopw [7, 8] (fun v i wr => ∃ n : Nat, i = .int .i64 (n : Int) ∧ n ≤ b.length ∧ n ≤ 4 ∧ Aside0 (WkSt w A c l v (chOf l (b.take n)) wr)) (fun _ i _ => 4 - (intOf i).toNat)
  case atStart => exact ⟨0, rfl, by omega, by omega, H2⟩
  case round =>
    clear H1 H2
    obtain ⟨n, rfl, hn, hn4, HR⟩ := hrel
    by_cases c5 : n < b.length
    · by_cases c6 : n < 4
      · have c5b : (n : Int) < (b.length : Int) := by omega
        have c6b : (n : Int) < 4 := by omega
        obtain ⟨y, hy⟩ : ∃ y, y = b.getD n (0, 0) := ⟨_, rfl⟩
        obtain ⟨ad, eA, hat⟩ := at_flat HS.out.2.2.1 (0, 0) (n : Int) (by omega) c5b
        subst eA
        rw [show ((n : Int).toNat) = n by omega, ← hy] at hat
        have c5c := eq_true c5b
        have c5d : ((0 : Int) ≤ (n : Int)) = True := eq_true (by omega)
        have hyo : (0 ≤ y.1 ∧ y.1 < 256) ∧ 0 ≤ y.2 ∧ y.2 < 256 := HA.out.2 y (by rw [hy]; exact getD_mem' c5)
        have hsu := chOf_succ c5 l
        rw [← hy] at hsu
        obtain ⟨m, hm⟩ : ∃ m, chOf l (b.take n) = m := ⟨_, rfl⟩
        rw [hm] at hsu
        have H3 := HR.out
        rw [hm] at H3
        obtain ⟨A7, c7, e7⟩ := Kd.R_slice H3.ch
        subst e7
        have HQ := Aside0.mk H3
        have HMS := Aside0.mk (show m.length ≤ 16 ∧ SmL m by rw [← hm]; exact HCM.out n hn4)
        have HSU := Aside0.mk hsu
        have HYO := Aside0.mk hyo
        obtain ⟨b0, b1⟩ := y
        have hat0 : w.cell? (ad.add (n * 2)) = some (.int .u8 b0) := by have h := hat 0 _ rfl; rwa [Addr.add_zero'] at h
        have hat1 : w.cell? ⟨(ad.add (n * 2)).block, (ad.add (n * 2)).off + 1, none⟩ = some (.int .u8 b1) := hat 1 _ rfl
        have HAT := Aside0.mk (And.intro hat0 hat1)
        have hb1 : 0 ≤ b1 ∧ b1 < 256 := hyo.2
        have HLF := Aside0.mk (show lfOf (b0, b1) = ⟨keyB b0, sB b1⟩ from rfl)
        obtain ⟨z, hz⟩ : ∃ z, lfOf (b0, b1) = z := ⟨_, rfl⟩
        have HZZ := Aside0.mk (⟨hz, by rw [← hz]; rfl⟩ : lfOf (b0, b1) = z ∧ z.k = keyB b0)
        clear H3 HR hsu hy hat hm hyo hz hat0 hat1
        go_wp2
        refine start_ (n := 15) (S := fun w' => Below wr.heap.size wr w') (ds := []) #[false, false, false, false, false, false, false, false, false, false, false, false, false, false, false] (by kernel_rfl) rfl rfl (Below.refl _ _).drew (fun hHeld => ?_)
        refine pure_ (i := 0) (N := some 27) (v := ?_) (a' := ?_) #[true, false, false, false, false, false, false, false, false, false, false, false, false, false, false] rfl rfl (by kernel_rfl) (fun _ _ _ h => h) (Or.inl ⟨by rfl, ?_⟩) ?_ ?_
        rotate_left
        · intro w'
          go_simp
          with_reducible rfl
        rotate_left
        · simp only [Act.put, List.setIfInBounds_toArray, List.set_cons_zero, List.set_cons_succ, i64_w, i32_w]
          rfl
        refine pure_ (i := 1) (N := some 28) (v := ?_) (a' := ?_) #[true, true, false, false, false, false, false, false, false, false, false, false, false, false, false] rfl rfl (by kernel_rfl) (fun _ _ _ h => h) (Or.inl ⟨by rfl, ?_⟩) ?_ ?_
        rotate_left
        · intro w'
          go_simp
          with_reducible rfl
        rotate_left
        · simp only [Act.put, List.setIfInBounds_toArray, List.set_cons_zero, List.set_cons_succ, i64_w, i32_w]
          rfl
        refine pure_ (i := 2) (N := some 29) (v := ?_) (a' := ?_) #[true, true, true, false, false, false, false, false, false, false, false, false, false, false, false] rfl rfl (by kernel_rfl) (fun _ _ _ h => h) (Or.inl ⟨by rfl, ?_⟩) ?_ ?_
        rotate_left
        · intro w'
          go_simp
          with_reducible rfl
        rotate_left
        · simp only [Act.put, List.setIfInBounds_toArray, List.set_cons_zero, List.set_cons_succ, i64_w, i32_w]
          rfl
        refine pure_ (i := 3) (N := some 30) (v := ?_) (a' := ?_) #[true, true, true, true, false, false, false, false, false, false, false, false, false, false, false] rfl rfl (by kernel_rfl) (fun _ _ _ h => h) (Or.inl ⟨by rfl, ?_⟩) ?_ ?_
        rotate_left
        · intro w'
          go_simp
          with_reducible rfl
        rotate_left
        · simp only [Act.put, List.setIfInBounds_toArray, List.set_cons_zero, List.set_cons_succ, i64_w, i32_w]
          rfl
        refine take_ (i := 4) (N := some 31) (v := ?_) (a' := ?_) #[true, true, true, true, true, false, false, false, false, false, false, false, false, false, false] rfl rfl (by kernel_rfl) (fun _ _ _ h => h) (Or.inl ⟨by rfl, ?_⟩) hHeld ?_ ?_
        rotate_left
        · intro w' hS
          have hx := ((below_tr HQ.out.below hS HQ.out.below.size).cell (World.block_lt_of_cell? _ _ HAT.out.1)).trans HAT.out.1
          go_simp
          with_reducible rfl
        rotate_left
        · simp only [Act.put, List.setIfInBounds_toArray, List.set_cons_zero, List.set_cons_succ, i64_w, i32_w]
          rfl
        refine pure_ (i := 6) (N := some 33) (v := ?_) (a' := ?_) #[true, true, true, true, true, false, true, false, false, false, false, false, false, false, false] rfl rfl (by kernel_rfl) (fun _ _ _ h => h) (Or.inl ⟨by rfl, ?_⟩) ?_ ?_
        rotate_left
        · intro w'
          go_simp
          with_reducible rfl
        rotate_left
        · simp only [Act.put, List.setIfInBounds_toArray, List.set_cons_zero, List.set_cons_succ, i64_w, i32_w]
          rfl
        refine pure_ (i := 7) (N := some 34) (v := ?_) (a' := ?_) #[true, true, true, true, true, false, true, true, false, false, false, false, false, false, false] rfl rfl (by kernel_rfl) (fun _ _ _ h => h) (Or.inl ⟨by rfl, ?_⟩) ?_ ?_
        rotate_left
        · intro w'
          go_simp
          with_reducible rfl
        rotate_left
        · simp only [Act.put, List.setIfInBounds_toArray, List.set_cons_zero, List.set_cons_succ, i64_w, i32_w]
          rfl
        refine pure_ (i := 8) (N := some 35) (v := ?_) (a' := ?_) #[true, true, true, true, true, false, true, true, true, false, false, false, false, false, false] rfl rfl (by kernel_rfl) (fun _ _ _ h => h) (Or.inl ⟨by rfl, ?_⟩) ?_ ?_
        rotate_left
        · intro w'
          go_simp
          with_reducible rfl
        rotate_left
        · simp only [Act.put, List.setIfInBounds_toArray, List.set_cons_zero, List.set_cons_succ, i64_w, i32_w]
          rfl
        refine pure_ (i := 9) (N := some 36) (v := ?_) (a' := ?_) #[true, true, true, true, true, false, true, true, true, true, false, false, false, false, false] rfl rfl (by kernel_rfl) (fun _ _ _ h => h) (Or.inl ⟨by rfl, ?_⟩) ?_ ?_
        rotate_left
        · intro w'
          go_simp
          with_reducible rfl
        rotate_left
        · simp only [Act.put, List.setIfInBounds_toArray, List.set_cons_zero, List.set_cons_succ, i64_w, i32_w]
          rfl
        refine take_ (i := 10) (N := some 37) (v := ?_) (a' := ?_) #[true, true, true, true, true, false, true, true, true, true, true, false, false, false, false] rfl rfl (by kernel_rfl) (fun _ _ _ h => h) (Or.inl ⟨by rfl, ?_⟩) hHeld ?_ ?_
        rotate_left
        · intro w' hS
          have hx := ((below_tr HQ.out.below hS HQ.out.below.size).cell (World.block_lt_of_cell? _ _ HAT.out.2)).trans HAT.out.2
          go_simp
          with_reducible rfl
        rotate_left
        · simp only [Act.put, List.setIfInBounds_toArray, List.set_cons_zero, List.set_cons_succ, i64_w, i32_w]
          rfl
        refine pure_ (i := 11) (N := some 38) (v := .agg (cS (sB b1))) (a' := ?_) #[true, true, true, true, true, false, true, true, true, true, true, true, false, false, false] rfl rfl (by kernel_rfl) (fun _ _ _ h => h) (Or.inl ⟨by rfl, fun w' => yield_built 27 _ rfl (cS (sB b1)) [(0, .int .u8 b1)] (by simp only [List.map_toArray, List.map_cons, List.map_nil]; rfl) (built_S1 b1 HYO.out.2)⟩) ?_ ?_
        rotate_left
        · simp only [Act.put, List.setIfInBounds_toArray, List.set_cons_zero, List.set_cons_succ, i64_w, i32_w]
          rfl
        refine makers3_ (n := 14) (f := 3) (fe := 1) #[true, true, true, true, true, false, true, true, true, true, true, true, false, false, false] #[true, true, true, true, true, true, true, true, true, true, true, true, true, true, false] (by kernel_rfl) [27, 28, 29, 30, 31, 32, 33, 34, 35, 36, 37, 38, 39, 9] (by kernel_rfl) (by kernel_rfl) rfl (leafF (b0, b1) wr.drew.heap.size) (fun i => i == 13) (fun _ h => below_tr hHeld h hHeld.size) (leafF_mono _ _) ?hstep ?hend
        case hstep =>
          intro i o hi hu ho vs w2 hv hb2 hd K hK
          have h4 : vs 4 = .int .u8 b0 := hv 4 (by decide) (by decide)
          have h11 : vs 11 = .agg (cS (sB b1)) := hv 11 (by decide) (by decide)
          simp only [fil2, List.zipIdx_cons, List.zipIdx_nil, List.foldl_cons, List.foldl_nil, List.setIfInBounds_toArray, List.set_cons_zero, List.set_cons_succ, Nat.zero_add, Nat.reduceAdd] at hK ⊢
          match i, hi, hu, ho, hK, hd with
          | 5, _, _, ho, hK, hd =>
            obtain rfl : _ = o := Option.some.inj ho
            refine gr_go Tryd.func15 (by kernel_rfl) rfl #[.int .u8 b0] rfl (by simp only [List.map_toArray, List.map_cons, List.map_nil]; rw [← h4]; rfl) ?_
            refine (Key_calls b0 HYO.out.1 w2).mono ?_
            rintro e w3 ⟨rfl, hb3⟩
            exact ⟨_, rfl, hK _ _ rfl hb3 (fun h => by cases h)⟩
          | 12, _, _, ho, hK, hd =>
            obtain rfl : _ = o := Option.some.inj ho
            have h5 : vs 5 = .string (keyB b0) := hd ⟨5, .data⟩ (by simp) rfl (by decide) rfl
            refine gr_val (.agg (cL (lfOf (b0, b1)))) ?hy12 (hK _ _ rfl (Below.refl _ _) (fun h => by cases h))
            case hy12 => exact yield_built 33 _ rfl (cL (lfOf (b0, b1))) [(0, .string (keyB b0)), (1, .agg (cS (sB b1)))] (by simp only [List.map_toArray, List.map_cons, List.map_nil]; rw [← h5, ← h11]; rfl) (built_L (keyB b0) (sB b1))
          | 13, _, _, ho, hK, hd =>
            obtain rfl : _ = o := Option.some.inj ho
            exact gr_alloc 33 (.agg (cL zL)) rfl zero33 (hK _ _ ⟨_, rfl, hb2.size, h_new rfl⟩ (below_alloc (Below.refl _ _) _) (fun _ b hb => by obtain rfl := Option.some.inj hb; exact ⟨Nat.le_refl _, by rw [size_alloc]; exact Nat.lt_succ_self _⟩))
          | 0, _, hu, _, _, _ => exact absurd hu (by decide)
          | 1, _, hu, _, _, _ => exact absurd hu (by decide)
          | 2, _, hu, _, _, _ => exact absurd hu (by decide)
          | 3, _, hu, _, _, _ => exact absurd hu (by decide)
          | 4, _, hu, _, _, _ => exact absurd hu (by decide)
          | 6, _, hu, _, _, _ => exact absurd hu (by decide)
          | 7, _, hu, _, _, _ => exact absurd hu (by decide)
          | 8, _, hu, _, _, _ => exact absurd hu (by decide)
          | 9, _, hu, _, _, _ => exact absurd hu (by decide)
          | 10, _, hu, _, _, _ => exact absurd hu (by decide)
          | 11, _, hu, _, _, _ => exact absurd hu (by decide)
          | _ + 14, hi, _, _, _, _ => exact absurd hi (by omega)
        case hend =>
          intro vs w6 hv hb6 hF hD
          simp only [fil2, List.zipIdx_cons, List.zipIdx_nil, List.foldl_cons, List.foldl_nil, List.setIfInBounds_toArray, List.set_cons_zero, List.set_cons_succ, Nat.zero_add, Nat.reduceAdd]
          have f12 : vs 12 = .agg (cL (lfOf (b0, b1))) := hF 12 (by decide) rfl
          obtain ⟨g9, f13, B9, h9⟩ : ∃ b, vs 13 = .pointer (some ⟨b, 0, none⟩) ∧ wr.drew.heap.size ≤ b ∧ w6.heap[b]? = some (.cells (cL zL) 33 (0, 0)) := hF 13 (by decide) rfl
          rw [HZZ.out.1] at f12
          rw [f12, f13]
          have hHeld := below_tr hHeld hb6 hHeld.size
          have B9 : wr.heap.size ≤ g9 := B9
          clear f12 f13 hF hD hv hb6
          generalize vs 0 = v0
          generalize vs 1 = v1
          generalize vs 2 = v2
          generalize vs 3 = v3
          generalize vs 4 = v4
          generalize vs 5 = v5
          generalize vs 6 = v6
          generalize vs 7 = v7
          generalize vs 8 = v8
          generalize vs 9 = v9
          generalize vs 10 = v10
          generalize vs 11 = v11
          refine one_ (i := 14) (N := none) #[true, true, true, true, true, true, true, true, true, true, true, true, true, true, true] rfl rfl (by kernel_rfl) (by decide) (fun K hK => ?_)
          refine st_row (by rfl) rfl 33 (.tmp 9) (.tmp 39) rfl g9 (cL z) rfl rfl 33 (cL zL) h9 (by rw [cL_size]; kernel_rfl) (by rw [cL_size, cL_size]) (all_one (cL_one _)) ?_
          refine hK.out _ _ (below_setRow hHeld B9) (fun hHeld => ?_)
          clear hK K
          refine done_ (by kernel_rfl) ?_
          obtain ⟨wz, hwz⟩ : ∃ W, w6.setRow g9 (cL z) = W := ⟨_, rfl⟩
          have hz9 : wz.heap[g9]? = some (.cells (cL z) 33 (0, 0)) := by rw [← hwz]; exact setRow_heap _ _ _ _ _ _ h9
          rw [hwz] at hHeld ⊢
          have HZ := Aside0.mk (⟨HQ.out.next hHeld, hz9, at_L0 (row_cells hz9)⟩ : WkSt w A c l (.slice A7 m.length c7) m wz ∧ _ ∧ wz.cell? ⟨g9, 0, none⟩ = some (.string z.k))
          have hx1 := ((below_tr HQ.out.below hHeld HQ.out.below.size).cell (World.block_lt_of_cell? _ _ HAT.out.2)).trans HAT.out.2
          have hzk := HZ.out.2.2
          have HM4 := HCM.out (n + 1) (by omega)
          rw [HSU.out, chStep, HZZ.out.1] at HM4
          have hm1 := HMS.out.1
          clear hwz hz9 hHeld h9 B9
          by_cases hb4 : b1 % 4 = 0
          · have hst : chStep m (b0, b1) = dropOf m z.k := by rw [chStep, if_pos hb4, HZZ.out.2]
            have HST := Aside0.mk hst
            clear hst HM4
            go_wp2_with (first
              | (go_at_call 28; (with_reducible refine (drop4_calls m z.k A7 c7 wz (R_C HZ.out.1.ch).2.2 (R_C HZ.out.1.ch).2.1 (by omega)).mono ?_); rintro e w7 ⟨v7', rfl, hv7, hb7⟩; have H7 : Aside0 (WkSt w A c l v7' (dropOf m z.k) w7) := Aside0.mk ⟨(HZ.out.1.next hb7).below, (HZ.out.1.next hb7).words, (HZ.out.1.next hb7).row, Kd.R_lower hv7 (Nat.zero_le _)⟩; clear hv7 hb7))
            exact ⟨⟨n + 1, by simp, by omega, by omega, by rw [HSU.out, HST.out]; exact H7⟩, by simp [intOf]; omega⟩
          · have hst : chStep m (b0, b1) = putOf m z := by rw [chStep, if_neg hb4, HZZ.out.1]
            have HST := Aside0.mk hst
            have hb5 : (b1 % 4 == 0) = false := by simpa using hb4
            clear hst HM4
            go_wp2_with (first
              | ((with_reducible refine gate_dst (N := 52) rfl ?_); (refine wpList_loadv rfl 33 _ rfl _ rfl _ (ld_L HZ.out.2.1 0) ?_))
              | (go_at_call 29; (with_reducible refine (put4_calls m z A7 c7 wz (R_C HZ.out.1.ch).2.2 (R_C HZ.out.1.ch).2.1 (by omega)).mono ?_); rintro e w7 ⟨v7', rfl, hv7, hb7⟩; have H7 : Aside0 (WkSt w A c l v7' (putOf m z) w7) := Aside0.mk ⟨(HZ.out.1.next hb7).below, (HZ.out.1.next hb7).words, (HZ.out.1.next hb7).row, Kd.R_lower hv7 (Nat.zero_le _)⟩; clear hv7 hb7))
            exact ⟨⟨n + 1, by simp, by omega, by omega, by rw [HSU.out, HST.out]; exact H7⟩, by simp [intOf]; omega⟩
      · obtain rfl : n = 4 := by omega
        obtain ⟨m, hm⟩ : ∃ m, chOf l (b.take 4) = m := ⟨_, rfl⟩
        have H3 := HR.out
        rw [hm] at H3
        obtain ⟨A7, c7, e7⟩ := Kd.R_slice H3.ch
        subst e7
        have HQ := Aside0.mk H3
        have hms := HCM.out 4 (Nat.le_refl _)
        have hws := HWS.out
        rw [hm] at hms hws
        obtain ⟨d, hd⟩ : ∃ d, diffOf l m = d := ⟨_, rfl⟩
        obtain ⟨df, hdf⟩ : ∃ df, differOf l m = df := ⟨_, rfl⟩
        rw [hd, hdf] at hws
        obtain ⟨N, hN⟩ : ∃ N : Int, N = (d.2 : Int) := ⟨_, rfl⟩
        have hdl : df.length ≤ 5000 := by
          have h1 := (Srt.dif l m _ (Srt.dif m l [] List.Pairwise.nil).1).2
          have h2 := (Srt.dif m l [] List.Pairwise.nil).2
          have h3 := hms.1
          have h4 := HL.out.2.2
          rw [← hdf, differOf, List.length_map, difLs]
          simp only [List.length_nil] at h2
          omega
        have hn1 : 1 ≤ N := by rw [hN]; omega
        have hn2 : N ≤ 512 * (df.length : Int) + 1 := by rw [hN]; omega
        have HD := Aside0.mk (⟨hd, hdf, hms.2, by omega, by have := HL.out.2.2; omega, hN⟩ : diffOf l m = d ∧ differOf l m = df ∧ SmL m ∧ m.length ≤ 5000 ∧ l.length ≤ 5000 ∧ N = (d.2 : Int))
        obtain ⟨Z56, hz56⟩ : ∃ Z, Z = cF (.slice none 0 0) 0 false := ⟨_, rfl⟩
        have HZ56 := Aside0.mk (And.intro (show ∀ w, (zeroValue 56).run Tryd.prog w = .ok (.agg Z56) w by rw [hz56]; exact zero56) (show Z56.size = 3 by rw [hz56]; rfl))
        clear H3 HR hm hms hws hd hdf hz56 hN
        as_aux_lemma =>
          go_wp2_with (first
            | (go_at_call 24; (with_reducible refine (diffR_calls l m A A7 c c7 wr HQ.out.words HQ.out.row HQ.out.ch HL.out.2.1 HD.out.2.2.1 d HD.out.1).mono ?_); rintro e w4 ⟨A4, c4, D4, hD4, rfl, hr4, hb4⟩; have HD4 := Aside0.mk (⟨hD4.trans (by rw [HD.out.2.2.2.2.2]), HQ.out.next hb4⟩ : D4 = cF (.slice A4 d.1.length c4) N false ∧ _); clear hD4 hr4 hb4)
            | (go_at_call 24; (with_reducible refine (diffR_calls m m A7 A7 c7 c7 w4 HD4.out.2.words HD4.out.2.ch HD4.out.2.ch HD.out.2.2.1 HD.out.2.2.1 ([], 1) (diff_same m)).mono ?_); rintro e w5 ⟨A5, c5', D5, hD5, rfl, hr5, hb5⟩; have HD5 := Aside0.mk (⟨hD5, HD4.out.2.next hb5⟩ : D5 = cF (.slice A5 0 c5') 1 false ∧ _); clear hD5 hr5 hb5; obtain ⟨n5, hn5⟩ : ∃ n, n = w5.heap.size := ⟨_, rfl⟩; obtain ⟨ux, hux⟩ : ∃ wx, (w5.alloc (.cells Z56 56)).alloc (.cells Z56 56) = wx := ⟨_, rfl⟩; obtain ⟨uy, huy⟩ : ∃ wy, (ux.setRow n5 D4).setRow (n5 + 1) D5 = wy := ⟨_, rfl⟩; have HU5 := Aside0.mk (two_boxes hn5 hux huy); have HUX := Aside0.mk hux; have HUY := Aside0.mk huy; have HN5 := Aside0.mk hn5; clear hux huy hn5)
            | ((with_reducible refine gate_dst (N := 10) rfl ?_); (refine wpList_allocz rfl 56 Z56 rfl HZ56.out.1 ?_))
            | ((with_reducible refine gate_dst (N := 11) rfl ?_); (refine wpList_allocz rfl 56 Z56 rfl HZ56.out.1 ?_); rw [size_alloc, ← HN5.out])
            | ((with_reducible refine gate_store (t := 56) (p := 10) rfl ?_); rw [HUX.out]; (refine wpList_store_row rfl 56 (.tmp 10) (.tmp 56) rfl n5 D4 rfl rfl 56 Z56 HU5.out.1 (by rw [HD4.out.1]; kernel_rfl) (by rw [HD4.out.1, HZ56.out.2]; rfl) (all_one (by rw [HD4.out.1]; intro u hu; simp [cF] at hu; rcases hu with rfl | rfl | rfl <;> rfl)) ?_))
            | ((with_reducible refine gate_store (t := 56) (p := 11) rfl ?_); (refine wpList_store_row rfl 56 (.tmp 11) (.tmp 59) rfl (n5 + 1) D5 rfl rfl 56 Z56 HU5.out.2.1 (by rw [HD5.out.1]; kernel_rfl) (by rw [HD5.out.1, HZ56.out.2]; rfl) (all_one (by rw [HD5.out.1]; intro u hu; simp [cF] at hu; rcases hu with rfl | rfl | rfl <;> rfl)) ?_); (refine at_world (w' := uy) HUY.out ?_); have HY := Aside0.mk (⟨HD5.out.2.next HU5.out.2.2.2.2, HU5.out.2.2.1, HU5.out.2.2.2.1⟩ : _ ∧ _ ∧ _))
            | (go_at_call 27; (with_reducible refine (DifferR_calls l m A A7 c c7 uy HY.out.1.row HY.out.1.ch HD.out.2.2.2.2.1 HD.out.2.2.2.1 df HD.out.2.1).mono ?_); rintro e w8 ⟨A8, c8, rfl, hr8, hb8⟩; have h10 := at_next HY.out.2.1 hb8; have h11 := at_next HY.out.2.2 hb8; have hx1 := cell_F1 HD4.out.1 h10; have hx2 := cell_F1 HD5.out.1 h11; have hx3 := cell_F0 HD5.out.1 h11; have HFIN := Aside0.mk (HY.out.1.next hb8).below; clear hr8 hb8 h10 h11))
          go_ret
          exact ⟨rfl, HFIN.out⟩
    · obtain rfl : n = b.length := by omega
      have hx : b.take b.length = b.take 4 := by rw [List.take_length, List.take_of_length_le hn4]
      rw [hx] at HR
      clear hx
      obtain ⟨m, hm⟩ : ∃ m, chOf l (b.take 4) = m := ⟨_, rfl⟩
      have H3 := HR.out
      rw [hm] at H3
      obtain ⟨A7, c7, e7⟩ := Kd.R_slice H3.ch
      subst e7
      have HQ := Aside0.mk H3
      have hms := HCM.out 4 (Nat.le_refl _)
      have hws := HWS.out
      rw [hm] at hms hws
      obtain ⟨d, hd⟩ : ∃ d, diffOf l m = d := ⟨_, rfl⟩
      obtain ⟨df, hdf⟩ : ∃ df, differOf l m = df := ⟨_, rfl⟩
      rw [hd, hdf] at hws
      obtain ⟨N, hN⟩ : ∃ N : Int, N = (d.2 : Int) := ⟨_, rfl⟩
      have hdl : df.length ≤ 5000 := by
        have h1 := (Srt.dif l m _ (Srt.dif m l [] List.Pairwise.nil).1).2
        have h2 := (Srt.dif m l [] List.Pairwise.nil).2
        have h3 := hms.1
        have h4 := HL.out.2.2
        rw [← hdf, differOf, List.length_map, difLs]
        simp only [List.length_nil] at h2
        omega
      have hn1 : 1 ≤ N := by rw [hN]; omega
      have hn2 : N ≤ 512 * (df.length : Int) + 1 := by rw [hN]; omega
      have HD := Aside0.mk (⟨hd, hdf, hms.2, by omega, by have := HL.out.2.2; omega, hN⟩ : diffOf l m = d ∧ differOf l m = df ∧ SmL m ∧ m.length ≤ 5000 ∧ l.length ≤ 5000 ∧ N = (d.2 : Int))
      obtain ⟨Z56, hz56⟩ : ∃ Z, Z = cF (.slice none 0 0) 0 false := ⟨_, rfl⟩
      have HZ56 := Aside0.mk (And.intro (show ∀ w, (zeroValue 56).run Tryd.prog w = .ok (.agg Z56) w by rw [hz56]; exact zero56) (show Z56.size = 3 by rw [hz56]; rfl))
      clear H3 HR hm hms hws hd hdf hz56 hN
      as_aux_lemma =>
        go_wp2_with (first
          | (go_at_call 24; (with_reducible refine (diffR_calls l m A A7 c c7 wr HQ.out.words HQ.out.row HQ.out.ch HL.out.2.1 HD.out.2.2.1 d HD.out.1).mono ?_); rintro e w4 ⟨A4, c4, D4, hD4, rfl, hr4, hb4⟩; have HD4 := Aside0.mk (⟨hD4.trans (by rw [HD.out.2.2.2.2.2]), HQ.out.next hb4⟩ : D4 = cF (.slice A4 d.1.length c4) N false ∧ _); clear hD4 hr4 hb4)
          | (go_at_call 24; (with_reducible refine (diffR_calls m m A7 A7 c7 c7 w4 HD4.out.2.words HD4.out.2.ch HD4.out.2.ch HD.out.2.2.1 HD.out.2.2.1 ([], 1) (diff_same m)).mono ?_); rintro e w5 ⟨A5, c5', D5, hD5, rfl, hr5, hb5⟩; have HD5 := Aside0.mk (⟨hD5, HD4.out.2.next hb5⟩ : D5 = cF (.slice A5 0 c5') 1 false ∧ _); clear hD5 hr5 hb5; obtain ⟨n5, hn5⟩ : ∃ n, n = w5.heap.size := ⟨_, rfl⟩; obtain ⟨ux, hux⟩ : ∃ wx, (w5.alloc (.cells Z56 56)).alloc (.cells Z56 56) = wx := ⟨_, rfl⟩; obtain ⟨uy, huy⟩ : ∃ wy, (ux.setRow n5 D4).setRow (n5 + 1) D5 = wy := ⟨_, rfl⟩; have HU5 := Aside0.mk (two_boxes hn5 hux huy); have HUX := Aside0.mk hux; have HUY := Aside0.mk huy; have HN5 := Aside0.mk hn5; clear hux huy hn5)
          | ((with_reducible refine gate_dst (N := 10) rfl ?_); (refine wpList_allocz rfl 56 Z56 rfl HZ56.out.1 ?_))
          | ((with_reducible refine gate_dst (N := 11) rfl ?_); (refine wpList_allocz rfl 56 Z56 rfl HZ56.out.1 ?_); rw [size_alloc, ← HN5.out])
          | ((with_reducible refine gate_store (t := 56) (p := 10) rfl ?_); rw [HUX.out]; (refine wpList_store_row rfl 56 (.tmp 10) (.tmp 56) rfl n5 D4 rfl rfl 56 Z56 HU5.out.1 (by rw [HD4.out.1]; kernel_rfl) (by rw [HD4.out.1, HZ56.out.2]; rfl) (all_one (by rw [HD4.out.1]; intro u hu; simp [cF] at hu; rcases hu with rfl | rfl | rfl <;> rfl)) ?_))
          | ((with_reducible refine gate_store (t := 56) (p := 11) rfl ?_); (refine wpList_store_row rfl 56 (.tmp 11) (.tmp 59) rfl (n5 + 1) D5 rfl rfl 56 Z56 HU5.out.2.1 (by rw [HD5.out.1]; kernel_rfl) (by rw [HD5.out.1, HZ56.out.2]; rfl) (all_one (by rw [HD5.out.1]; intro u hu; simp [cF] at hu; rcases hu with rfl | rfl | rfl <;> rfl)) ?_); (refine at_world (w' := uy) HUY.out ?_); have HY := Aside0.mk (⟨HD5.out.2.next HU5.out.2.2.2.2, HU5.out.2.2.1, HU5.out.2.2.2.1⟩ : _ ∧ _ ∧ _))
          | (go_at_call 27; (with_reducible refine (DifferR_calls l m A A7 c c7 uy HY.out.1.row HY.out.1.ch HD.out.2.2.2.2.1 HD.out.2.2.2.1 df HD.out.2.1).mono ?_); rintro e w8 ⟨A8, c8, rfl, hr8, hb8⟩; have h10 := at_next HY.out.2.1 hb8; have h11 := at_next HY.out.2.2 hb8; have hx1 := cell_F1 HD4.out.1 h10; have hx2 := cell_F1 HD5.out.1 h11; have hx3 := cell_F0 HD5.out.1 h11; have HFIN := Aside0.mk (HY.out.1.next hb8).below; clear hr8 hb8 h10 h11))
        go_ret
        exact ⟨rfl, HFIN.out⟩
end Go.Proofs.YtanabbjakacgbaaDoor.Sp

