/- Plain Lean functions with the answers of the Go functions that these laws reach, and proofs that the calls come to them; written by this session's program. -/
import Derived.Test.YtfhjbhbmbnnimaaPEx0
import Derived.Test.YtfhjbhbmbnnimaaPEx3
import Derived.Test.YtfhjbhbmbnnimaaPEx4
import Derived.Test.YtfhjbhbmbnnimaaPEx5
import Derived.Test.YtfhjbhbmbnnimaaPEx7
import Derived.Test.YtfhjbhbmbnnimaaPEx8
namespace Go.Proofs.Ytfhjbhbmbnnimaa.PE
open Go.RowKit Go.Proofs.YtfhjbhbmbnnimaaW.PrintWords Go.Proofs.YtfhjbhbmbnnimaaW.PrintLast Go.Proofs.YtfhjbhbmbnnimaaW.PrintMore
attribute [local go_sem] max2_int min2_int max_two min_two max_three min_three max_four min_four   -- for this text's walks alone
set_option linter.unusedVariables false
set_option linter.unusedSimpArgs false

/-! ### extent_Erase: function 29, by hand -/
/-- One piece of Erase: gone, if its chunk is among ids. -/
def eraseStep (ids : List Int) (l : List S58) (p : S58) : Option (List S58) :=
 if p.f0 > 0 ∧ ids.contains p.f0 = true then extent_join.f l (-1) 0 p.f2 else extent_join.f l p.f0 p.f1 p.f2
def extent_Erase.f (l0 : List S58) (l1 : List Int) : Option (List S58) := l0.foldlM (eraseStep l1) []

theorem index_any (ids : List Int) (a : Int) (hm : ids.length ≤ 9223372036854775807) : ∀ (d k : Nat) (i : Int), 0 ≤ i → i ≤ ids.length → (ids.length : Int) - i = d → d < k →
  ∃ j, slices_Index_int_int.l0 k ids a (ids.length : Int) i = some j ∧ (j ≥ 0 ↔ a ∈ ids.drop i.toNat) := by
 intro d
 induction d with
 | zero =>
  intro k i h0 h1 hd hk
  obtain ⟨k, rfl⟩ : ∃ m, k = m + 1 := ⟨k - 1, by omega⟩
  refine ⟨-1, by simp only [slices_Index_int_int.l0]; rw [if_neg (by omega)], ?_⟩
  rw [List.drop_of_length_le (by omega)]
  simp
 | succ d ih =>
  intro k i h0 h1 hd hk
  obtain ⟨k, rfl⟩ : ∃ m, k = m + 1 := ⟨k - 1, by omega⟩
  have hl : i.toNat < ids.length := by omega
  have hdr : ids.drop i.toNat = rd ids i :: ids.drop (i + 1).toNat := by
   rw [List.drop_eq_getElem_cons hl, show (i + 1).toNat = i.toNat + 1 by omega]
   unfold rd
   rw [List.getD_eq_getElem?_getD, List.getElem?_eq_getElem hl]
   rfl
  simp only [slices_Index_int_int.l0]
  rw [if_pos (by omega), if_pos h0, if_pos (by omega)]
  by_cases he : a = rd ids i
  ·rw [if_pos he]
   exact ⟨i, rfl, fun _ => by rw [hdr, ← he]; exact List.mem_cons_self, fun _ => h0⟩
  ·rw [if_neg he, show wrap64 (i + 1) = i + 1 by unfold wrap64; omega]
   obtain ⟨j, hj, hi⟩ := ih k (i + 1) (by omega) (by omega) (by omega) (by omega)
   refine ⟨j, hj, hi.trans ?_⟩
   rw [hdr, List.mem_cons]
   exact ⟨Or.inr, fun h => h.elim (fun h => absurd h he) id⟩

theorem contains_any (ids : List Int) (a : Int) (hm : ids.length ≤ 9223372036854775807) : slices_Contains_int_int.f (ids.length + 1) ids a = some (ids.contains a) := by
 obtain ⟨j, hj, hi⟩ := index_any ids a hm ids.length (ids.length + 1) 0 (by omega) (by omega) (by omega) (by omega)
 unfold slices_Contains_int_int.f slices_Index_int_int.f
 rw [hj]
 simp only [Option.bind_some, Option.some.injEq]
 rw [Bool.eq_iff_iff]
 simpa using hi

theorem below_of (w0 w W : World) (h : Below w0.heap.size w0 w) (k : Below w.heap.size w W) : Below w0.heap.size w0 W := below_step h k

set_option maxHeartbeats 1000000 in
set_option maxRecDepth 100000 in
theorem extent_Erase_1.calls (u : Value) (l : List S58) (p : S58) (gi : Nat) (Ai : Option Addr) (ci : Nat) (ids : List Int) (r : List S58) (w0 w : World) (hB : Below w0.heap.size w0 w) (ho : Kd.R k58 58 w w0.heap.size (fun _ => True) u l)
  (hbox : w.cell? ⟨gi, 0, none⟩ = some (.slice Ai ids.length ci)) (hr : Kd.C (Kd.int .i64) w Ai ids.length ids) (hc : ids.length ≤ ci) (h : eraseStep ids l p = some r) :
  Calls Try.prog 45 #[u, .agg #[.int .i64 p.f0, .int .i64 p.f1, .int .i64 p.f2], .pointer (some ⟨gi, 0, none⟩)] w fun e w' => ∃ v, e = .returned v ∧ Kd.R k58 58 w' w0.heap.size (fun _ => True) v r ∧ Below w0.heap.size w0 w' := by
 obtain ⟨a, b, c⟩ := p
 unfold eraseStep at h
 have hu58 := Try.underlying58
 have hgi : gi < w.heap.size := World.block_lt_of_cell? w _ hbox
 dsimp only at h ⊢
 have HB := Aside0.mk hB
 have HO := Aside0.mk ho
 have HR := Aside0.mk hr
 clear hB ho hr
 have hm := HR.out.2.1
 by_cases ha : a > 0
 ·have A2 := Aside0.mk (contains_any ids a hm)
  cases t : ids.contains a with
  | true =>
   rw [t] at A2
   rw [if_pos ⟨ha, t⟩] at h
   have H := Aside0.mk h
   clear h t hm
   go_enter Try.func45, Try.ntmps45
   go_wp2_with (first | (go_at_call 46; (refine (slices_Contains_int_int.calls (ids.length + 1) Ai ci ids a true _ (Kd.C_below HR.out (by repeat (first | exact Below.refl _ _ | apply below_alloc))) hc A2.out).mono ?_); rintro e w' ⟨rfl, ⟨nd, rfl⟩⟩) | (go_at_call 47; (refine (extent_join.calls (fun _ => True) u l (-1) 0 c r w0 _ ?sB ?sO H.out).mono ?_); (case sB => exact below_step HB.out (by repeat (first | exact Below.refl _ _ | apply below_alloc | apply pw_below_drewN | refine below_set ?_ (Nat.le_refl _)))); (case sO => exact Kd.R_below HO.out (by repeat (first | exact Below.refl _ _ | apply below_alloc | apply pw_below_drewN | refine below_set ?_ (Nat.le_refl _)))); rintro e w1 ⟨v0, rfl, hr1, hb1, hk1⟩))
   go_ret
   exact ⟨_, rfl, Kd.R_mono hr1 (fun _ _ => trivial), hb1⟩
  | false =>
   rw [t] at A2
   rw [if_neg (fun h' => by rw [t] at h'; exact absurd h'.2 (by decide))] at h
   have H := Aside0.mk h
   clear h t hm
   go_enter Try.func45, Try.ntmps45
   go_wp2_with (first | (go_at_call 46; (refine (slices_Contains_int_int.calls (ids.length + 1) Ai ci ids a false _ (Kd.C_below HR.out (by repeat (first | exact Below.refl _ _ | apply below_alloc))) hc A2.out).mono ?_); rintro e w' ⟨rfl, ⟨nd, rfl⟩⟩) | (go_at_call 47; (refine (extent_join.calls (fun _ => True) u l a b c r w0 _ ?sB ?sO H.out).mono ?_); (case sB => exact below_step HB.out (by repeat (first | exact Below.refl _ _ | apply below_alloc | apply pw_below_drewN | refine below_set ?_ (Nat.le_refl _)))); (case sO => exact Kd.R_below HO.out (by repeat (first | exact Below.refl _ _ | apply below_alloc | apply pw_below_drewN | refine below_set ?_ (Nat.le_refl _)))); rintro e w1 ⟨v0, rfl, hr1, hb1, hk1⟩))
   go_ret
   exact ⟨_, rfl, Kd.R_mono hr1 (fun _ _ => trivial), hb1⟩
 ·rw [if_neg (fun h' => ha h'.1)] at h
  have H := Aside0.mk h
  clear h hm
  have ha' : decide (0 < a) = false := decide_eq_false ha
  go_enter Try.func45, Try.ntmps45
  go_wp2_with (go_at_call 47; (refine (extent_join.calls (fun _ => True) u l a b c r w0 _ ?sB ?sO H.out).mono ?_); (case sB => exact below_step HB.out (by repeat (first | exact Below.refl _ _ | apply below_alloc | apply pw_below_drewN | refine below_set ?_ (Nat.le_refl _)))); (case sO => exact Kd.R_below HO.out (by repeat (first | exact Below.refl _ _ | apply below_alloc | apply pw_below_drewN | refine below_set ?_ (Nat.le_refl _)))); rintro e w1 ⟨v0, rfl, hr1, hb1, hk1⟩)
  go_ret
  exact ⟨_, rfl, Kd.R_mono hr1 (fun _ _ => trivial), hb1⟩

theorem drop_step {α : Type} (l : List α) (z : α) (i : Int) (h0 : 0 ≤ i) (h1 : i < (l.length : Int)) : l.drop i.toNat = l.getD i.toNat z :: l.drop (i + 1).toNat := by
 have hl : i.toNat < l.length := by omega
 rw [List.drop_eq_getElem_cons hl, show (i + 1).toNat = i.toNat + 1 by omega, List.getD_eq_getElem?_getD, List.getElem?_eq_getElem hl]
 rfl

set_option maxHeartbeats 1000000 in
set_option maxRecDepth 100000 in
theorem eraseFold (A0 : Option Addr) (c0 : Nat) (l0 : List S58) (gi : Nat) (Ai : Option Addr) (ci : Nat) (ids : List Int) (r : List S58) (w : World) (hr0 : Kd.C k58 w A0 l0.length l0) (hc0 : l0.length ≤ c0)
  (hbox : w.cell? ⟨gi, 0, none⟩ = some (.slice Ai ids.length ci)) (hr : Kd.C (Kd.int .i64) w Ai ids.length ids) (hc : ids.length ≤ ci) (h : l0.foldlM (eraseStep ids) [] = some r) :
  Calls Try.prog 44 #[.slice A0 l0.length c0, .slice none 0 0, .func (.func 45) #[] #[.pointer (some ⟨gi, 0, none⟩)]] w fun e w' => ∃ v, e = .returned v ∧ Kd.R k58 58 w' w.heap.size (fun _ => True) v r ∧ Below w.heap.size w w' := by
 have hu58 := Try.underlying58
 have hgi : gi < w.heap.size := World.block_lt_of_cell? w _ hbox
 have HR0 := Aside0.mk hr0
 have HR := Aside0.mk hr
 have HX := Aside0.mk hbox
 have H := Aside0.mk h
 have hmax : l0.length ≤ 9223372036854775807 := hr0.2.1
 clear hr0 hr hbox h
 go_enter Try.func44, Try.ntmps44
 go_wp2
 go_loopw [1, 11] (fun v i wr => ∃ (x : Int) (l : List S58), i = .int .i64 x ∧ 0 ≤ x ∧ x ≤ (l0.length : Int) ∧ Aside0 ((l0.drop x.toNat).foldlM (eraseStep ids) l = some r) ∧ Aside0 (Kd.R k58 58 wr w.heap.size (fun _ => True) v l) ∧ Aside0 (Below w.heap.size w wr)) (fun _ i _ => l0.length - (intOf i).toNat)
 case atStart => exact ⟨0, [], rfl, by omega, by omega, ⟨by simpa using H.out⟩, ⟨Kd.R_nil _ _ _ _ _⟩, ⟨Below.refl _ _⟩⟩
 case round =>
  obtain ⟨x, l, rfl, hx0, hx1, HA, HO, HB⟩ := hrel
  clear H
  by_cases c4 : x < (l0.length : Int)
  ·have hd := drop_step l0 z58 x hx0 c4
   have h1 := HA.out
   rw [hd, List.foldlM_cons] at h1
   obtain ⟨l', h2, h3⟩ := Option.bind_eq_some_iff.mp h1
   have H2 := Aside0.mk h2
   have H3 := Aside0.mk h3
   clear hd h1 h2 h3 HA
   obtain ⟨ad, e1, hx_0, hx_1, hx_2⟩ := at_T58 HR0.out x hx0 c4
   cases e1
   replace hx_0 := (HB.out.cell (World.block_lt_of_cell? w _ hx_0)).trans hx_0
   replace hx_1 := (HB.out.cell (World.block_lt_of_cell? w _ hx_1)).trans hx_1
   replace hx_2 := (HB.out.cell (World.block_lt_of_cell? w _ hx_2)).trans hx_2
   have c4b := decide_eq_true c4
   have hx0b := eq_true hx0
   have c4c := eq_true c4
   go_wp2_with (go_at_call 45; (refine (extent_Erase_1.calls _ l (rd_T58 l0 x) gi Ai ci ids l' w _ ?sB ?sO ?sX ?sR hc H2.out).mono ?_); (case sB => exact below_step HB.out (by repeat (first | exact Below.refl _ _ | apply below_alloc | apply pw_below_drewN | refine below_set ?_ (Nat.le_refl _)))); (case sO => exact Kd.R_below HO.out (by repeat (first | exact Below.refl _ _ | apply below_alloc | apply pw_below_drewN | refine below_set ?_ (Nat.le_refl _)))); (case sX => exact (Below.cell (below_step HB.out (by repeat (first | exact Below.refl _ _ | apply below_alloc | apply pw_below_drewN | refine below_set ?_ (Nat.le_refl _)))) hgi).trans HX.out); (case sR => exact Kd.C_below HR.out (below_step HB.out (by repeat (first | exact Below.refl _ _ | apply below_alloc | apply pw_below_drewN | refine below_set ?_ (Nat.le_refl _))))); rintro e w1 ⟨v0, rfl, hr1, hb1⟩)
   go_roundw
   case rel => exact ⟨x + 1, l', rfl, by omega, by omega, H3, ⟨hr1⟩, ⟨hb1⟩⟩
   case measure => simp [intOf]; omega
  ·have hxe : x = (l0.length : Int) := by omega
   have hd : l0.drop x.toNat = [] := by rw [hxe]; simp
   have h1 := HA.out
   rw [hd] at h1
   simp only [List.foldlM_nil] at h1
   have h2 : l = r := Option.some.inj h1
   clear hd h1 HA hxe
   have c4b := decide_eq_false c4
   go_wp2
   go_ret
   exact ⟨_, rfl, by rw [← h2]; exact HO.out, HB.out⟩

set_option maxHeartbeats 1000000 in
set_option maxRecDepth 100000 in
theorem extent_Erase.calls (A0 : Option Addr) (c0 : Nat) (l0 : List (S58)) (A1 : Option Addr) (c1 : Nat) (l1 : List Int) (r : List (S58)) (w : World) (hr0 : Kd.C k58 w A0 l0.length l0) (hc0 : l0.length ≤ c0) (hr1 : Kd.C (Kd.int .i64) w A1 l1.length l1) (hc1 : l1.length ≤ c1) (h : extent_Erase.f l0 l1 = some r) :
  Calls Try.prog 29 #[.slice A0 l0.length c0, .slice A1 l1.length c1] w fun e w' => ∃ v0_ : Value, e = .returned (v0_) ∧ Kd.R k58 58 w' w.heap.size (fun _ => True) v0_ r ∧ Below w.heap.size w w' := by
 have HR0 := Aside0.mk hr0
 have HR1 := Aside0.mk hr1
 have H := Aside0.mk h
 clear hr0 hr1 h
 have hbx := Boxed.new w 63 (.slice A1 l1.length c1)
 have HX := Aside0.mk hbx.cell
 clear hbx
 go_enter Try.func29, Try.ntmps29
 go_wp2_with (go_at_call 44; (refine (eraseFold A0 c0 l0 w.heap.size A1 c1 l1 r _ (Kd.C_below HR0.out (below_alloc (Below.refl _ _) _)) hc0 HX.out (Kd.C_below HR1.out (below_alloc (Below.refl _ _) _)) hc1 H.out).mono ?_); rintro e w1 ⟨v0, rfl, hr2, hb2⟩)
 go_ret
 exact ⟨_, rfl, Kd.R_lower hr2 (by simp), below_step (below_alloc (Below.refl _ _) _) hb2⟩

/-! ### l08_sanity: function 10, by hand -/
section
open Go.RowKit Go.Shelf Go.Proofs.YtfhjbhbmbnnimaaW.PrintWords Go.Proofs.YtfhjbhbmbnnimaaW.PrintLast Go.Proofs.YtfhjbhbmbnnimaaW.PrintMore
def l08_sanity.f : Option Bool := some true
def pcs (l : List S58) : List Value := l.flatMap fun p => [.int .i64 p.f0, .int .i64 p.f1, .int .i64 p.f2]
theorem pcs_reps : ∀ l : List S58, Reps (fun p c => c = [.int .i64 p.f0, .int .i64 p.f1, .int .i64 p.f2]) 3 l (pcs l)
 | [] => Reps.none _ _
 | p :: l => by
  obtain ⟨h1, h2⟩ := pcs_reps l
  refine ⟨by show (pcs l).length + 3 = _; rw [h1, List.length_cons]; omega, fun j q hq => ?_⟩
  rcases j with _ | j
  ·obtain rfl := Option.some.inj hq; rfl
  ·have h3 := h2 j q hq
   rw [← h3, show (j + 1) * 3 = j * 3 + 3 by omega]
   rfl
/-- A row that lies in a block of its own from its start. -/
theorem own_pcs {w : World} {base g cap : Nat} {cur : Array Value} {l : List S58} (hg : w.heap[g]? = some (.cells cur 58 (0, 0))) (hb : base ≤ g) (hl : l.length ≤ cap) (hm : cap ≤ maxLen) (hs : cur.size = cap * 3) (ht : cur.toList.take (l.length * 3) = pcs l) :
  Kd.R k58 58 w base (fun k => k = g) (.slice (some ⟨g, 0, none⟩) l.length cap) l := by
 refine ⟨fun k hk => (Option.some.inj hk).symm, pcs l, ⟨(pcs_reps l).1, .inr ⟨g, cap, cur, rfl, hb, hg, hl, hm, hs, ht⟩⟩, (pcs_reps l).imp_ (fun p c hc => ?_)⟩
 rw [hc]
 exact k58_mkM _ _ _ p
theorem lit_own (w : World) (l : List S58) (hm : l.length ≤ 1000) : Kd.R k58 58 (w.alloc (.cells (pcs l).toArray 58)) w.heap.size (fun k => k = w.heap.size) (.slice (some ⟨w.heap.size, 0, none⟩) l.length l.length) l :=
 own_pcs (w := w.alloc (.cells (pcs l).toArray 58)) (l := l) (cap := l.length) (heap_alloc_new w _) (Nat.le_refl _) (Nat.le_refl _) (by unfold maxLen; omega) (by rw [List.size_toArray]; exact (pcs_reps l).1) (by rw [List.toList_toArray, List.take_of_length_le]; exact Nat.le_of_eq (pcs_reps l).1)
theorem lit_pcs (w : World) (l : List S58) (hm : l.length ≤ 1000) : Kd.C k58 (w.alloc (.cells (pcs l).toArray 58)) (some ⟨w.heap.size, 0, none⟩) l.length l := by
 have h := own_pcs (w := w.alloc (.cells (pcs l).toArray 58)) (base := 0) (l := l) (cap := l.length) (heap_alloc_new w _) (Nat.zero_le _) (Nat.le_refl _) (by unfold maxLen; omega) (by rw [List.size_toArray]; exact (pcs_reps l).1) (by rw [List.toList_toArray, List.take_of_length_le]; exact Nat.le_of_eq (pcs_reps l).1)
 exact (Kd.R_reads' h).2.2

/-- []byte of a literal: the block is marked, its cells stay. -/
theorem convert_lit (P : Program) (w : World) (t g n c : Nat) (hu : P.underlying t = some (.slice 5)) (hu5 : P.underlying 5 = some (.int .u8)) {cs : Array Value} (hg : w.heap[g]? = some (.cells cs 5 (0, 0))) :
  ∃ W, (convert t t (.slice (some ⟨g, 0, none⟩) n c)).run P w = .ok (.slice (some ⟨g, 0, none⟩) n c) W ∧ Below g w W ∧ W.heap.size = w.heap.size ∧ (∀ k, k ≠ g → W.heap[k]? = w.heap[k]?) ∧ ∀ i, W.cell? ⟨g, i, none⟩ = w.cell? ⟨g, i, none⟩ := by
 refine ⟨w.freeze ⟨g, cs.size, none⟩ 1, ?_, ?_, ?_, ?_, ?_⟩
 ·simp [convert, run_underlying hu, run_underlying hu5, markStringish, World.shape?, hg, Sem.run_bind]
 ·refine ⟨rfl, rfl, rfl, by simp [World.freeze], fun k hk => ?_⟩
  simp only [World.freeze, Nat.one_ne_zero, if_false, Array.getElem?_modify]
  rw [if_neg (by omega)]
 ·simp [World.freeze]
 ·intro k hk
  simp only [World.freeze, Nat.one_ne_zero, if_false, Array.getElem?_modify]
  rw [if_neg (fun e => hk e.symm)]
 ·intro i
  simp [World.cell?, World.freeze, Array.getElem?_modify, hg]

theorem wpList_convert {P : Program} {w : World} {ops : Array Oper} {rest : List Oper} {o : Oper} {a : Act} {Q : Exit → Act → World → Prop} (hgd : o.guard = none) (s d : TypeId) (x : Operand) (ho : o.op = .convert s d x) (v v' : Value) (hx : a.eval x = v) (W : World)
  (hrun : (convert s d v).run P w = .ok v' W) (h : wpList P ops Q rest (a.put o.dst v') W) : wpList P ops Q (o :: rest) a w := by
 refine wpList_plain hgd fun K hK => ?_
 unfold Oper.wp
 simp [execOp, ho, hx, hrun, Result.andThen, Sem.run_bind, Sem.run_map]
 exact hK _ _ h

theorem u8_C (W : World) (g : Nat) (h0 : W.cell? ⟨g, 0, none⟩ = some (.int .u8 120)) (h1 : W.cell? ⟨g, 1, none⟩ = some (.int .u8 121)) (h2 : W.cell? ⟨g, 2, none⟩ = some (.int .u8 122)) : Kd.C (Kd.int .u8) W (some ⟨g, 0, none⟩) 3 [120, 121, 122] := by
 refine ⟨rfl, by decide, fun _ => ⟨_, rfl, fun j p hj => ⟨[.int .u8 p], rfl, rfl, fun i u hi => ?_⟩⟩⟩
 rcases i with _ | i
 ·obtain rfl := Option.some.inj hi
  rcases j with _ | _ | _ | j
  ·obtain rfl := Option.some.inj hj; exact h0
  ·obtain rfl := Option.some.inj hj; exact h1
  ·obtain rfl := Option.some.inj hj; exact h2
  ·simp at hj
 ·simp at hi

theorem lit_blob (w : World) (g : Nat) (hin : Kd.C (Kd.int .u8) w (some ⟨g, 0, none⟩) 3 [120, 121, 122]) :
  Kd.C k69 (w.alloc (.cells #[.int .i64 7, .slice (some ⟨g, 0, none⟩) 3 3, .int .i64 7, .slice none 0 0] 69)) (some ⟨w.heap.size, 0, none⟩) 2 [⟨7, [120, 121, 122]⟩, ⟨7, []⟩] := by
 refine ⟨rfl, by decide, fun _ => ⟨_, rfl, fun j p hj => ?_⟩⟩
 rcases j with _ | _ | j
 ·obtain rfl := Option.some.inj hj
  refine ⟨[.int .i64 7, .slice (some ⟨g, 0, none⟩) 3 3], rfl, k69_mk _ ⟨7, [120, 121, 122]⟩ (by decide) (Kd.C_below hin (below_alloc (Below.refl _ _) _)), fun i u hi => ?_⟩
  rcases i with _ | _ | i
  ·obtain rfl := Option.some.inj hi; exact World.cell?_alloc_new _ _ _ _
  ·obtain rfl := Option.some.inj hi; exact World.cell?_alloc_new _ _ _ _
  ·simp at hi
 ·obtain rfl := Option.some.inj hj
  refine ⟨[.int .i64 7, .slice none 0 0], rfl, k69_mk _ ⟨7, []⟩ (by decide) ⟨rfl, by decide, fun h => absurd h (by decide)⟩, fun i u hi => ?_⟩
  rcases i with _ | _ | i
  ·obtain rfl := Option.some.inj hi; exact World.cell?_alloc_new _ _ _ _
  ·obtain rfl := Option.some.inj hi; exact World.cell?_alloc_new _ _ _ _
  ·simp at hi
 ·simp at hj

theorem lit_int (w : World) (a : Int) : Kd.C (Kd.int .i64) (w.alloc (.cells #[.int .i64 a] 3)) (some ⟨w.heap.size, 0, none⟩) 1 [a] := by
 refine ⟨rfl, by decide, fun _ => ⟨_, rfl, fun j p hj => ⟨[.int .i64 p], rfl, rfl, fun i u hi => ?_⟩⟩⟩
 rcases i with _ | i
 ·obtain rfl := Option.some.inj hi
  rcases j with _ | j
  ·obtain rfl := Option.some.inj hj
   exact World.cell?_alloc_new _ _ _ _
  ·simp at hj
 ·simp at hi

theorem u8_cells {w W : World} {g n : Nat} {xs : List Int} (h : Kd.C (Kd.int .u8) w (some ⟨g, 0, none⟩) n xs) (hb : Below w.heap.size w W) : ∀ i, i < n → W.cell? ⟨g, 0 + i, none⟩ = some (.int .u8 (xs.getD i 0)) := by
 intro i hi
 obtain ⟨ad, e, hc⟩ := (Kd.C_below h hb).2.2 (by omega)
 obtain rfl := Option.some.inj e
 have hl : i < xs.length := by have := h.1; omega
 obtain ⟨c, _, hK, hcell⟩ := hc i _ (List.getElem?_eq_getElem hl)
 cases (show c = [.int .u8 xs[i]] from hK)
 have h2 := hcell 0 _ rfl
 rw [List.getD_eq_getElem?_getD, List.getElem?_eq_getElem hl]
 rw [Addr.add_lit] at h2
 rw [← show 0 + (i * (Kd.int IntKind.u8).sz + 0) = 0 + i by show 0 + (i * 1 + 0) = 0 + i; omega]
 exact h2

def fst2 : List S58 := [⟨0, 0, 3⟩, ⟨7, 0, 2⟩]
def one8 : List S58 := [⟨8, 0, 1⟩]
def gon : List S58 := [⟨0, 0, 3⟩, ⟨-1, 0, 2⟩]
def sec3 : List S58 := [⟨0, 0, 3⟩, ⟨7, 0, 2⟩, ⟨8, 0, 1⟩]
def lcA : List S58 := [⟨0, 0, 3⟩, ⟨7, 0, 1⟩]
def lcB : List S58 := [⟨0, 0, 3⟩, ⟨7, 0, 2⟩, ⟨0, 0, 1⟩]
def lpA : List S58 := [⟨0, 0, 1⟩, ⟨7, 0, 1⟩]
def blb : List S69 := [⟨7, [120, 121, 122]⟩, ⟨7, []⟩]
theorem s_p1 (w : World) : Calls Try.prog 20 #[.slice none 0 0, .int .i64 3, .int .i64 7, .int .i64 2] w fun e w' => ∃ A' c', e = .returned (.agg #[.slice A' 2 c', .int .i64 0]) ∧ 2 ≤ c' ∧ Kd.C k58 w' A' 2 fst2 ∧ Below w.heap.size w w' :=
 (l08_put.calls none 0 [] 3 7 2 fst2 0  w ⟨rfl, by decide, fun h => absurd h (by decide)⟩ (by decide) (by kernel_rfl)).mono (by rintro e w' ⟨v, rfl, hr, hb⟩; obtain ⟨A', c', rfl, hc, hq⟩ := Kd.R_reads hr; exact ⟨A', c', rfl, hc, hq, hb⟩)
theorem s_p2 (w : World) (A : Option Addr) (h : Kd.C k58 w A 2 fst2) : Calls Try.prog 20 #[.slice A 2 2, .int .i64 5, .int .i64 8, .int .i64 1] w fun e w' => ∃ A' c', e = .returned (.agg #[.slice A' 3 c', .int .i64 0]) ∧ 3 ≤ c' ∧ Kd.C k58 w' A' 3 sec3 ∧ Below w.heap.size w w' :=
 (l08_put.calls A 2 fst2 5 8 1 sec3 0  w h (by decide) (by kernel_rfl)).mono (by rintro e w' ⟨v, rfl, hr, hb⟩; obtain ⟨A', c', rfl, hc, hq⟩ := Kd.R_reads hr; exact ⟨A', c', rfl, hc, hq, hb⟩)
theorem s_p3 (w : World) (A : Option Addr) (h : Kd.C k58 w A 2 fst2) : Calls Try.prog 20 #[.slice A 2 2, .int .i64 0, .int .i64 0, .int .i64 1] w fun e w' => ∃ A' c', e = .returned (.agg #[.slice A' 0 c', .int .i64 1]) ∧ 0 ≤ c' ∧ Kd.C k58 w' A' 0 [] ∧ Below w.heap.size w w' :=
 (l08_put.calls A 2 fst2 0 0 1 [] 1  w h (by decide) (by kernel_rfl)).mono (by rintro e w' ⟨v, rfl, hr, hb⟩; obtain ⟨A', c', rfl, hc, hq⟩ := Kd.R_reads hr; exact ⟨A', c', rfl, hc, hq, hb⟩)
theorem s_p4 (w : World) (A : Option Addr) (h : Kd.C k58 w A 2 fst2) : Calls Try.prog 20 #[.slice A 2 2, .int .i64 1048576, .int .i64 1, .int .i64 1] w fun e w' => ∃ A' c', e = .returned (.agg #[.slice A' 0 c', .int .i64 2]) ∧ 0 ≤ c' ∧ Kd.C k58 w' A' 0 [] ∧ Below w.heap.size w w' :=
 (l08_put.calls A 2 fst2 1048576 1 1 [] 2  w h (by decide) (by kernel_rfl)).mono (by rintro e w' ⟨v, rfl, hr, hb⟩; obtain ⟨A', c', rfl, hc, hq⟩ := Kd.R_reads hr; exact ⟨A', c', rfl, hc, hq, hb⟩)
theorem s_e1 (w : World) (A B : Option Addr) (c d : Nat) (h : Kd.C k58 w A 2 fst2) (hc : 2 ≤ c) (k : Kd.C k58 w B 2 fst2) (hd : 2 ≤ d) : Calls Try.prog 22 #[.agg #[.slice A 2 c, .int .i64 0], .agg #[.slice B 2 d, .int .i64 0]] w fun e w' => e = .returned (.bool true) ∧ Below w.heap.size w w' :=
 (l08_same.calls 40 A c fst2 0 B d fst2 0 true w h hc k hd (by kernel_rfl)).mono (by rintro e w' hx; exact hx)
theorem s_e2 (w : World) (A B : Option Addr) (c d : Nat) (h : Kd.C k58 w A 3 sec3) (hc : 3 ≤ c) (k : Kd.C k58 w B 3 sec3) (hd : 3 ≤ d) : Calls Try.prog 22 #[.agg #[.slice A 3 c, .int .i64 0], .agg #[.slice B 3 d, .int .i64 0]] w fun e w' => e = .returned (.bool true) ∧ Below w.heap.size w w' :=
 (l08_same.calls 40 A c sec3 0 B d sec3 0 true w h hc k hd (by kernel_rfl)).mono (by rintro e w' hx; exact hx)
theorem s_e3 (w : World) (A B : Option Addr) (c d : Nat) (h : Kd.C k58 w A 2 lcA) (hc : 2 ≤ c) (k : Kd.C k58 w B 2 lcA) (hd : 2 ≤ d) : Calls Try.prog 22 #[.agg #[.slice A 2 c, .int .i64 0], .agg #[.slice B 2 d, .int .i64 0]] w fun e w' => e = .returned (.bool true) ∧ Below w.heap.size w w' :=
 (l08_same.calls 40 A c lcA 0 B d lcA 0 true w h hc k hd (by kernel_rfl)).mono (by rintro e w' hx; exact hx)
theorem s_e4 (w : World) (A B : Option Addr) (c d : Nat) (h : Kd.C k58 w A 3 lcB) (hc : 3 ≤ c) (k : Kd.C k58 w B 3 lcB) (hd : 3 ≤ d) : Calls Try.prog 22 #[.agg #[.slice A 3 c, .int .i64 0], .agg #[.slice B 3 d, .int .i64 0]] w fun e w' => e = .returned (.bool true) ∧ Below w.heap.size w w' :=
 (l08_same.calls 40 A c lcB 0 B d lcB 0 true w h hc k hd (by kernel_rfl)).mono (by rintro e w' hx; exact hx)
theorem s_c1 (w : World) (A : Option Addr) (h : Kd.C k58 w A 2 fst2) : Calls Try.prog 23 #[.slice A 2 2, .int .i64 4] w fun e w' => ∃ A' c', e = .returned (.agg #[.slice A' 2 c', .int .i64 0]) ∧ 2 ≤ c' ∧ Kd.C k58 w' A' 2 lcA ∧ Below w.heap.size w w' :=
 (l08_cut.calls A 2 fst2 4 lcA 0 w h (by decide) (by kernel_rfl)).mono (by rintro e w' ⟨v, rfl, hr, hb⟩; obtain ⟨A', c', rfl, hc, hq⟩ := Kd.R_reads hr; exact ⟨A', c', rfl, hc, hq, hb⟩)
theorem s_c2 (w : World) (A : Option Addr) (h : Kd.C k58 w A 2 fst2) : Calls Try.prog 23 #[.slice A 2 2, .int .i64 6] w fun e w' => ∃ A' c', e = .returned (.agg #[.slice A' 3 c', .int .i64 0]) ∧ 3 ≤ c' ∧ Kd.C k58 w' A' 3 lcB ∧ Below w.heap.size w w' :=
 (l08_cut.calls A 2 fst2 6 lcB 0 w h (by decide) (by kernel_rfl)).mono (by rintro e w' ⟨v, rfl, hr, hb⟩; obtain ⟨A', c', rfl, hc, hq⟩ := Kd.R_reads hr; exact ⟨A', c', rfl, hc, hq, hb⟩)
theorem s_c3 (w : World) (A : Option Addr) (h : Kd.C k58 w A 2 fst2) : Calls Try.prog 23 #[.slice A 2 2, .int .i64 (-1)] w fun e w' => ∃ A' c', e = .returned (.agg #[.slice A' 0 c', .int .i64 1]) ∧ 0 ≤ c' ∧ Kd.C k58 w' A' 0 [] ∧ Below w.heap.size w w' :=
 (l08_cut.calls A 2 fst2 (-1) [] 1 w h (by decide) (by kernel_rfl)).mono (by rintro e w' ⟨v, rfl, hr, hb⟩; obtain ⟨A', c', rfl, hc, hq⟩ := Kd.R_reads hr; exact ⟨A', c', rfl, hc, hq, hb⟩)
theorem s_q1 (w : World) (A : Option Addr) (h : Kd.C k58 w A 2 fst2) : Calls Try.prog 13 #[.slice A 2 2, .int .i64 2, .int .i64 2] w fun e w' => ∃ A' c', e = .returned (.slice A' 2 c') ∧ 2 ≤ c' ∧ Kd.C k58 w' A' 2 lpA ∧ Below w.heap.size w w' :=
 (extent_Part.calls A 2 fst2 2 2 lpA w h (by decide) (by kernel_rfl)).mono (by rintro e w' ⟨v, rfl, hr, hb⟩; obtain ⟨A', c', rfl, hc, hq⟩ := Kd.R_reads hr; exact ⟨A', c', rfl, hc, hq, hb⟩)
theorem s_q2 (w : World) (A : Option Addr) (h : Kd.C k58 w A 2 fst2) : Calls Try.prog 13 #[.slice A 2 2, .int .i64 5, .int .i64 1] w fun e w' => ∃ A' c', e = .returned (.slice A' 0 c') ∧ 0 ≤ c' ∧ Kd.C k58 w' A' 0 [] ∧ Below w.heap.size w w' :=
 (extent_Part.calls A 2 fst2 5 1 [] w h (by decide) (by kernel_rfl)).mono (by rintro e w' ⟨v, rfl, hr, hb⟩; obtain ⟨A', c', rfl, hc, hq⟩ := Kd.R_reads hr; exact ⟨A', c', rfl, hc, hq, hb⟩)
theorem s_r1 (w : World) (A B : Option Addr) (c d : Nat) (h : Kd.C k58 w A 2 lpA) (hc : 2 ≤ c) (k : Kd.C k58 w B 2 lpA) (hd : 2 ≤ d) : Calls Try.prog 17 #[.slice A 2 c, .slice B 2 d] w fun e w' => e = .returned (.bool true) ∧ Drawn0 w w' :=
 (r08_Same.calls 40 A c lpA B d lpA true w h hc k hd (by kernel_rfl)).mono (by rintro e w' hx; exact hx)
theorem s_r2 (w : World) (A B : Option Addr) (c d : Nat) (h : Kd.C k58 w A 2 gon) (hc : 2 ≤ c) (k : Kd.C k58 w B 2 gon) (hd : 2 ≤ d) : Calls Try.prog 17 #[.slice A 2 c, .slice B 2 d] w fun e w' => e = .returned (.bool true) ∧ Drawn0 w w' :=
 (r08_Same.calls 40 A c gon B d gon true w h hc k hd (by kernel_rfl)).mono (by rintro e w' hx; exact hx)
theorem s_t1 (w : World) (A : Option Addr) (h : Kd.C k58 w A 2 fst2) (B : Option Addr) (k : Kd.C k69 w B 2 blb) : Calls Try.prog 25 #[.slice A 2 2, .slice B 2 2] w fun e w' => ∃ g c', e = .returned (.agg #[.slice (some ⟨g, 0, none⟩) 5 c', .int .i64 0]) ∧ (Kd.int .u8).C w' (some ⟨g, 0, none⟩) 5 [0, 0, 0, 120, 121] ∧ Below w.heap.size w w' :=
 (l08_read.calls A 2 fst2 B 2 blb [0, 0, 0, 120, 121] 0 w h (by decide) k (by decide) (by kernel_rfl)).mono (by rintro e w' ⟨v, rfl, hr, hb⟩; obtain ⟨g, cap, rfl, -, -, -⟩ := Kd.R_form hr (by decide); exact ⟨g, cap, rfl, (Kd.R_reads' hr).2.2, hb⟩)
theorem s_t2 (w : World) (A : Option Addr) (h : Kd.C k58 w A 2 gon) : Calls Try.prog 25 #[.slice A 2 2, .slice none 0 0] w fun e w' => ∃ A' c', e = .returned (.agg #[.slice A' 0 c', .int .i64 60]) ∧ (Kd.int .u8).C w' A' 0 [] ∧ Below w.heap.size w w' :=
 (l08_read.calls A 2 gon none 0 [] [] 60 w h (by decide) ⟨rfl, by decide, fun h => absurd h (by decide)⟩ (by decide) (by kernel_rfl)).mono (by rintro e w' ⟨v, rfl, hr, hb⟩; obtain ⟨A', c', rfl, hc, hq⟩ := Kd.R_reads hr; exact ⟨A', c', rfl, hq, hb⟩)
theorem s_t3 (w : World) (A : Option Addr) (h : Kd.C k58 w A 2 fst2) : Calls Try.prog 25 #[.slice A 2 2, .slice none 0 0] w fun e w' => ∃ A' c', e = .returned (.agg #[.slice A' 0 c', .int .i64 90]) ∧ (Kd.int .u8).C w' A' 0 [] ∧ Below w.heap.size w w' :=
 (l08_read.calls A 2 fst2 none 0 [] [] 90 w h (by decide) ⟨rfl, by decide, fun h => absurd h (by decide)⟩ (by decide) (by kernel_rfl)).mono (by rintro e w' ⟨v, rfl, hr, hb⟩; obtain ⟨A', c', rfl, hc, hq⟩ := Kd.R_reads hr; exact ⟨A', c', rfl, hq, hb⟩)
theorem s_x1 (w : World) (A : Option Addr) (h : Kd.C k58 w A 2 fst2) (B : Option Addr) (k : Kd.C (Kd.int .i64) w B 1 [7]) : Calls Try.prog 29 #[.slice A 2 2, .slice B 1 1] w fun e w' => ∃ A' c', e = .returned (.slice A' 2 c') ∧ 2 ≤ c' ∧ Kd.C k58 w' A' 2 gon ∧ Below w.heap.size w w' :=
 (extent_Erase.calls A 2 fst2 B 1 [7] gon w h (by decide) k (by decide) (by kernel_rfl)).mono (by rintro e w' ⟨v, rfl, hr, hb⟩; obtain ⟨A', c', rfl, hc, hq⟩ := Kd.R_reads hr; exact ⟨A', c', rfl, hc, hq, hb⟩)
theorem s_z1 (w : World) (A : Option Addr) (c : Nat) (h : Kd.C k58 w A 3 sec3) (hc : 3 ≤ c) : Calls Try.prog 19 #[.slice A 3 c] w fun e w' => e = .returned (.int .i64 6) ∧ Below w.heap.size w w' :=
 (extent_Size.calls 40 A c sec3 6 w h hc (by kernel_rfl)).mono (by rintro e w' hx; exact hx)
theorem s_v1 (w : World) (A : Option Addr) (c : Nat) (h : Kd.C k58 w A 3 sec3) (hc : 3 ≤ c) : Calls Try.prog 27 #[.slice A 3 c] w fun e w' => e = .returned (.bool true) ∧ Below w.heap.size w w' :=
 (extent_Valid.calls 60 A c sec3 true w h hc (by kernel_rfl)).mono (by rintro e w' hx; exact hx)
theorem s_v2 (w : World) (A : Option Addr) (h : Kd.C k58 w A 2 [⟨0, 0, 1⟩, ⟨0, 0, 1⟩]) : Calls Try.prog 27 #[.slice A 2 2] w fun e w' => e = .returned (.bool false) ∧ Below w.heap.size w w' :=
 (extent_Valid.calls 60 A 2 [⟨0, 0, 1⟩, ⟨0, 0, 1⟩] false w h (by decide) (by kernel_rfl)).mono (by rintro e w' hx; exact hx)

set_option maxHeartbeats 8000000 in
set_option maxRecDepth 100000 in
theorem l08_sanity.calls (r : Bool) (w : World) (h : l08_sanity.f = some r) :
  Calls Try.prog 10 #[] w fun e w' => e = .returned (.bool r) ∧ Below w.heap.size w w' := by
 obtain rfl := Option.some.inj h
 clear h
 have hu58 := Try.underlying58
 have hu69 := Try.underlying69
 have hu50 := Try.underlying50
 have hu5 := Try.underlying5
 have hf40 : ∀ (v : Value) (e : Int) (W : World), (Instr.field 40 (.agg #[v, .int .i64 e]) 1).run Try.prog W = .ok (.int .i64 e) W := fun v e W => by rfl
 have hf52 : ∀ (v : Value) (e : Int) (W : World), (Instr.field 52 (.agg #[v, .int .i64 e]) 1).run Try.prog W = .ok (.int .i64 e) W := fun v e W => by rfl
 have hu40 := Try.underlying40
 have hu52 := Try.underlying52
 have hu24 := Try.underlying24
 go_enter Try.func10, Try.ntmps10
 go_wp2_with (first | ((with_reducible refine gate_dst (N := 14) rfl ?_); go_loud (refine Kd.R_append_rows k58 (w0 := w) w.heap.size rfl (.tmp 12) (.tmp 13) 24 58 (.agg #[(.int .i64 0), (.int .i64 0), (.int .i64 0)]) 24 rfl hu24 info58 rfl (by decide) (by decide) (.slice (some ⟨w.heap.size + 1, 0, none⟩) 0 0) [] fst2 (some ⟨w.heap.size, 0, none⟩) 2 2 (fun _ => True) (fun _ => False) rfl rfl ?aO ?aR (fun _ _ h => h) (fun _ h => h.elim) (fun _ _ => trivial) ?aB ?aS ?aL ?_); (case aO => have h := lit_own (w.alloc (.cells (pcs fst2).toArray 58)) [] (by decide); rw [World.size_alloc] at h; exact Kd.R_mono (Kd.R_lower h (by omega)) (fun _ _ => trivial)); (case aR => exact Kd.C_below (lit_pcs w fst2 (by decide)) (below_alloc (Below.refl _ _) _)); (case aB => exact below_alloc (below_alloc (Below.refl _ _) _) _); (case aS => simp; omega); (case aL => simp); intro v2 w2 hv2 hb2 hg2 ht2; (obtain ⟨Aa, ca, e2, hca, -⟩ := Kd.R_reads hv2; change v2 = Value.slice Aa 2 ca at e2; subst e2)) | ((with_reducible refine gate_dst (N := 18) rfl ?_); go_loud (refine Kd.R_append_rows k58 (w0 := w) w.heap.size rfl (.tmp 15) (.tmp 17) 24 58 (.agg #[(.int .i64 0), (.int .i64 0), (.int .i64 0)]) 24 rfl hu24 info58 rfl (by decide) (by decide) _ fst2 one8 (some ⟨w2.heap.size, 0, none⟩) 1 1 (fun _ => True) (fun _ => False) rfl rfl (Kd.R_below (show Kd.R k58 58 w2 w.heap.size (fun _ => True) _ fst2 from hv2) (below_alloc (Below.refl _ _) _)) (lit_pcs w2 one8 (by decide)) (fun _ _ h => h) (fun _ h => h.elim) (fun _ _ => trivial) (below_alloc hb2 _) ?aS ?aL ?_); (case aS => have := hb2.size; simp; omega); (case aL => simp [fst2]); intro v3 w3 hv3 hb3 hg3 ht3; (obtain ⟨Ab, cb, e3, hcb, hrb⟩ := Kd.R_reads hv3; change v3 = Value.slice Ab 3 cb at e3; subst e3; change Kd.C k58 w3 Ab 3 sec3 at hrb; change 3 ≤ cb at hcb)) | ((with_reducible refine gate_dst (N := 23) rfl ?_); (obtain ⟨w5, hcv, hb5, hz5, hk5, hc5⟩ := convert_lit Try.prog ((w3.alloc (.cells (pcs gon).toArray 58)).alloc (.cells #[.int .u8 120, .int .u8 121, .int .u8 122] 5)) 50 (w3.heap.size + 1) 3 3 hu50 hu5 (cs := #[.int .u8 120, .int .u8 121, .int .u8 122]) (by have h := heap_alloc_new (w3.alloc (.cells (pcs gon).toArray 58)) (.cells #[.int .u8 120, .int .u8 121, .int .u8 122] 5); rw [World.size_alloc] at h; exact h)); go_loud (refine wpList_convert rfl 50 50 (.tmp 22) rfl _ _ rfl w5 hcv ?_)) | (at_builtin; fail))
 have z3 := hb3.size
 have hbW : Below w3.heap.size w3 (w5.alloc (.cells #[.int .i64 7, .slice (some ⟨w3.heap.size + 1, 0, none⟩) 3 3, .int .i64 7, .slice none 0 0] 69)) :=
  ((below_alloc (below_alloc (Below.refl _ w3) _) _).trans (Below.mono hb5 (by omega))).trans (Below.mono (below_alloc (Below.refl _ w5) _) (by rw [hz5]; simp; omega))
 have HB := Aside0.mk (hb3.trans (Below.mono hbW z3))
 have HSc := Aside0.mk (Kd.C_below hrb hbW)
 have hF2 := Kd.R_below (lit_own w fst2 (by decide)) (below_alloc (Below.refl _ _) (.cells #[] 58))
 have hF3 := Kd.R_grown hF2 hg2 (fun k hk => by subst hk; simp [Value.ownBlock])
 have hF4 := Kd.R_grown (Kd.R_below hF3 (below_alloc (Below.refl _ _) _)) hg3 (fun k hk => by
  subst hk
  change some w.heap.size ≠ (Value.slice Aa 2 ca).ownBlock
  rcases ht2 with ht2 | ⟨b, ht2, ht2b⟩
  ·rw [ht2]; simp [Value.ownBlock]
  ·rw [ht2]; simp at ht2b; intro e; injection e; omega)
 have HF := Aside0.mk (Kd.C_below (Kd.R_reads' hF4).2.2 hbW)
 have HG := Aside0.mk (Kd.C_below (lit_pcs w3 gon (by decide)) (((below_alloc (Below.refl _ (w3.alloc (.cells (pcs gon).toArray 58))) (.cells #[.int .u8 120, .int .u8 121, .int .u8 122] 5)).trans (Below.mono hb5 (by simp))).trans (Below.mono (below_alloc (Below.refl _ w5) (.cells #[.int .i64 7, .slice (some ⟨w3.heap.size + 1, 0, none⟩) 3 3, .int .i64 7, .slice none 0 0] 69)) (by rw [hz5]; simp))))
 have hcw : ∀ i, ((w3.alloc (.cells (pcs gon).toArray 58)).alloc (.cells #[.int .u8 120, .int .u8 121, .int .u8 122] 5)).cell? ⟨w3.heap.size + 1, i, none⟩ = (#[.int .u8 120, .int .u8 121, .int .u8 122] : Array Value)[i]? := fun i => by
  have h := World.cell?_alloc_new (w3.alloc (.cells (pcs gon).toArray 58)) #[.int .u8 120, .int .u8 121, .int .u8 122] 5 i
  rw [World.size_alloc] at h
  exact h
 have hl := (lit_blob w5 (w3.heap.size + 1) (u8_C w5 _ (by rw [hc5, hcw]; rfl) (by rw [hc5, hcw]; rfl) (by rw [hc5, hcw]; rfl)))
 rw [hz5, World.size_alloc, World.size_alloc] at hl
 have HL := Aside0.mk hl
 clear hl
 generalize w5.alloc (.cells #[.int .i64 7, .slice (some ⟨w3.heap.size + 1, 0, none⟩) 3 3, .int .i64 7, .slice none 0 0] 69) = w6 at HB HSc HF HG HL ⊢
 generalize w3.heap.size = g3 at HG HL ⊢
 clear hcw hF4 hF3 hF2 hbW hcv hb5 hz5 hk5 hc5 hv3 hb3 hg3 ht3 hrb hv2 hb2 hg2 ht2
 go_wp2_with (first | (go_at_call 20; (with_reducible refine (s_p1 _).mono ?_); rintro e wn ⟨Ap, cp, rfl, hcp, hqp, hb⟩; (have n0 := Aside0.mk (Kd.C_below HF.out (below_step (by repeat (first | exact Below.refl _ _ | apply below_alloc | apply pw_below_drewN | apply below_drew1)) hb)); have n1 := Aside0.mk (Kd.C_below HSc.out (below_step (by repeat (first | exact Below.refl _ _ | apply below_alloc | apply pw_below_drewN | apply below_drew1)) hb)); have n2 := Aside0.mk (Kd.C_below HG.out (below_step (by repeat (first | exact Below.refl _ _ | apply below_alloc | apply pw_below_drewN | apply below_drew1)) hb)); have n3 := Aside0.mk (Kd.C_below HL.out (below_step (by repeat (first | exact Below.refl _ _ | apply below_alloc | apply pw_below_drewN | apply below_drew1)) hb)); have nB := Aside0.mk (below_step (HB.out.trans (Below.mono (by repeat (first | exact Below.refl _ _ | apply below_alloc | apply pw_below_drewN | apply below_drew1)) HB.out.size)) hb); clear HF HSc HG HL HB hb; have HF := n0; have HSc := n1; have HG := n2; have HL := n3; have HB := nB; clear nB n0 n1 n2 n3)) | (go_at_call 22; (with_reducible refine (s_e1 _ _ _ _ _ (Kd.C_below hqp (by repeat (first | exact Below.refl _ _ | apply below_alloc | apply pw_below_drewN | apply below_drew1))) hcp (Kd.C_below HF.out (by repeat (first | exact Below.refl _ _ | apply below_alloc | apply pw_below_drewN | apply below_drew1))) (by decide)).mono ?_); rintro e wn ⟨rfl, hb⟩; (have n0 := Aside0.mk (Kd.C_below HF.out (below_step (by repeat (first | exact Below.refl _ _ | apply below_alloc | apply pw_below_drewN | apply below_drew1)) hb)); have n1 := Aside0.mk (Kd.C_below HSc.out (below_step (by repeat (first | exact Below.refl _ _ | apply below_alloc | apply pw_below_drewN | apply below_drew1)) hb)); have n2 := Aside0.mk (Kd.C_below HG.out (below_step (by repeat (first | exact Below.refl _ _ | apply below_alloc | apply pw_below_drewN | apply below_drew1)) hb)); have n3 := Aside0.mk (Kd.C_below HL.out (below_step (by repeat (first | exact Below.refl _ _ | apply below_alloc | apply pw_below_drewN | apply below_drew1)) hb)); have nB := Aside0.mk (below_step (HB.out.trans (Below.mono (by repeat (first | exact Below.refl _ _ | apply below_alloc | apply pw_below_drewN | apply below_drew1)) HB.out.size)) hb); clear HF HSc HG HL HB hb; have HF := n0; have HSc := n1; have HG := n2; have HL := n3; have HB := nB; clear nB n0 n1 n2 n3)) | (go_at_call 20; (with_reducible refine (s_p2 _ _ (Kd.C_below HF.out (by repeat (first | exact Below.refl _ _ | apply below_alloc | apply pw_below_drewN | apply below_drew1)))).mono ?_); rintro e wn ⟨Ar, cr, rfl, hcr, hqr, hb⟩; (have n0 := Aside0.mk (Kd.C_below HF.out (below_step (by repeat (first | exact Below.refl _ _ | apply below_alloc | apply pw_below_drewN | apply below_drew1)) hb)); have n1 := Aside0.mk (Kd.C_below HSc.out (below_step (by repeat (first | exact Below.refl _ _ | apply below_alloc | apply pw_below_drewN | apply below_drew1)) hb)); have n2 := Aside0.mk (Kd.C_below HG.out (below_step (by repeat (first | exact Below.refl _ _ | apply below_alloc | apply pw_below_drewN | apply below_drew1)) hb)); have n3 := Aside0.mk (Kd.C_below HL.out (below_step (by repeat (first | exact Below.refl _ _ | apply below_alloc | apply pw_below_drewN | apply below_drew1)) hb)); have nB := Aside0.mk (below_step (HB.out.trans (Below.mono (by repeat (first | exact Below.refl _ _ | apply below_alloc | apply pw_below_drewN | apply below_drew1)) HB.out.size)) hb); clear HF HSc HG HL HB hb; have HF := n0; have HSc := n1; have HG := n2; have HL := n3; have HB := nB; clear nB n0 n1 n2 n3)) | (go_at_call 22; (with_reducible refine (s_e2 _ _ _ _ _ (Kd.C_below hqr (by repeat (first | exact Below.refl _ _ | apply below_alloc | apply pw_below_drewN | apply below_drew1))) hcr (Kd.C_below HSc.out (by repeat (first | exact Below.refl _ _ | apply below_alloc | apply pw_below_drewN | apply below_drew1))) hcb).mono ?_); rintro e wn ⟨rfl, hb⟩; (have n0 := Aside0.mk (Kd.C_below HF.out (below_step (by repeat (first | exact Below.refl _ _ | apply below_alloc | apply pw_below_drewN | apply below_drew1)) hb)); have n1 := Aside0.mk (Kd.C_below HSc.out (below_step (by repeat (first | exact Below.refl _ _ | apply below_alloc | apply pw_below_drewN | apply below_drew1)) hb)); have n2 := Aside0.mk (Kd.C_below HG.out (below_step (by repeat (first | exact Below.refl _ _ | apply below_alloc | apply pw_below_drewN | apply below_drew1)) hb)); have n3 := Aside0.mk (Kd.C_below HL.out (below_step (by repeat (first | exact Below.refl _ _ | apply below_alloc | apply pw_below_drewN | apply below_drew1)) hb)); have nB := Aside0.mk (below_step (HB.out.trans (Below.mono (by repeat (first | exact Below.refl _ _ | apply below_alloc | apply pw_below_drewN | apply below_drew1)) HB.out.size)) hb); clear HF HSc HG HL HB hb; have HF := n0; have HSc := n1; have HG := n2; have HL := n3; have HB := nB; clear nB n0 n1 n2 n3)) | (go_at_call 20; (with_reducible refine (s_p3 _ _ (Kd.C_below HF.out (by repeat (first | exact Below.refl _ _ | apply below_alloc | apply pw_below_drewN | apply below_drew1)))).mono ?_); rintro e wn ⟨Ax, cx, rfl, hcx, hqx, hb⟩; (have n0 := Aside0.mk (Kd.C_below HF.out (below_step (by repeat (first | exact Below.refl _ _ | apply below_alloc | apply pw_below_drewN | apply below_drew1)) hb)); have n1 := Aside0.mk (Kd.C_below HSc.out (below_step (by repeat (first | exact Below.refl _ _ | apply below_alloc | apply pw_below_drewN | apply below_drew1)) hb)); have n2 := Aside0.mk (Kd.C_below HG.out (below_step (by repeat (first | exact Below.refl _ _ | apply below_alloc | apply pw_below_drewN | apply below_drew1)) hb)); have n3 := Aside0.mk (Kd.C_below HL.out (below_step (by repeat (first | exact Below.refl _ _ | apply below_alloc | apply pw_below_drewN | apply below_drew1)) hb)); have nB := Aside0.mk (below_step (HB.out.trans (Below.mono (by repeat (first | exact Below.refl _ _ | apply below_alloc | apply pw_below_drewN | apply below_drew1)) HB.out.size)) hb); clear HF HSc HG HL HB hb; have HF := n0; have HSc := n1; have HG := n2; have HL := n3; have HB := nB; clear nB n0 n1 n2 n3)) | (go_at_call 20; (with_reducible refine (s_p4 _ _ (Kd.C_below HF.out (by repeat (first | exact Below.refl _ _ | apply below_alloc | apply pw_below_drewN | apply below_drew1)))).mono ?_); rintro e wn ⟨Ax, cx, rfl, hcx, hqx, hb⟩; (have n0 := Aside0.mk (Kd.C_below HF.out (below_step (by repeat (first | exact Below.refl _ _ | apply below_alloc | apply pw_below_drewN | apply below_drew1)) hb)); have n1 := Aside0.mk (Kd.C_below HSc.out (below_step (by repeat (first | exact Below.refl _ _ | apply below_alloc | apply pw_below_drewN | apply below_drew1)) hb)); have n2 := Aside0.mk (Kd.C_below HG.out (below_step (by repeat (first | exact Below.refl _ _ | apply below_alloc | apply pw_below_drewN | apply below_drew1)) hb)); have n3 := Aside0.mk (Kd.C_below HL.out (below_step (by repeat (first | exact Below.refl _ _ | apply below_alloc | apply pw_below_drewN | apply below_drew1)) hb)); have nB := Aside0.mk (below_step (HB.out.trans (Below.mono (by repeat (first | exact Below.refl _ _ | apply below_alloc | apply pw_below_drewN | apply below_drew1)) HB.out.size)) hb); clear HF HSc HG HL HB hb; have HF := n0; have HSc := n1; have HG := n2; have HL := n3; have HB := nB; clear nB n0 n1 n2 n3)) | (go_at_call 23; (with_reducible refine (s_c1 _ _ (Kd.C_below HF.out (by repeat (first | exact Below.refl _ _ | apply below_alloc | apply pw_below_drewN | apply below_drew1)))).mono ?_); rintro e wn ⟨Ad, cd, rfl, hcd, hqd, hb⟩; (have n0 := Aside0.mk (Kd.C_below HF.out (below_step (by repeat (first | exact Below.refl _ _ | apply below_alloc | apply pw_below_drewN | apply below_drew1)) hb)); have n1 := Aside0.mk (Kd.C_below HSc.out (below_step (by repeat (first | exact Below.refl _ _ | apply below_alloc | apply pw_below_drewN | apply below_drew1)) hb)); have n2 := Aside0.mk (Kd.C_below HG.out (below_step (by repeat (first | exact Below.refl _ _ | apply below_alloc | apply pw_below_drewN | apply below_drew1)) hb)); have n3 := Aside0.mk (Kd.C_below HL.out (below_step (by repeat (first | exact Below.refl _ _ | apply below_alloc | apply pw_below_drewN | apply below_drew1)) hb)); have nB := Aside0.mk (below_step (HB.out.trans (Below.mono (by repeat (first | exact Below.refl _ _ | apply below_alloc | apply pw_below_drewN | apply below_drew1)) HB.out.size)) hb); clear HF HSc HG HL HB hb; have HF := n0; have HSc := n1; have HG := n2; have HL := n3; have HB := nB; clear nB n0 n1 n2 n3)) | (go_at_call 22; (with_reducible refine (s_e3 _ _ _ _ _ (Kd.C_below hqd (by repeat (first | exact Below.refl _ _ | apply below_alloc | apply pw_below_drewN | apply below_drew1))) hcd (lit_pcs _ lcA (by decide)) (by decide)).mono ?_); rintro e wn ⟨rfl, hb⟩; (have n0 := Aside0.mk (Kd.C_below HF.out (below_step (by repeat (first | exact Below.refl _ _ | apply below_alloc | apply pw_below_drewN | apply below_drew1)) hb)); have n1 := Aside0.mk (Kd.C_below HSc.out (below_step (by repeat (first | exact Below.refl _ _ | apply below_alloc | apply pw_below_drewN | apply below_drew1)) hb)); have n2 := Aside0.mk (Kd.C_below HG.out (below_step (by repeat (first | exact Below.refl _ _ | apply below_alloc | apply pw_below_drewN | apply below_drew1)) hb)); have n3 := Aside0.mk (Kd.C_below HL.out (below_step (by repeat (first | exact Below.refl _ _ | apply below_alloc | apply pw_below_drewN | apply below_drew1)) hb)); have nB := Aside0.mk (below_step (HB.out.trans (Below.mono (by repeat (first | exact Below.refl _ _ | apply below_alloc | apply pw_below_drewN | apply below_drew1)) HB.out.size)) hb); clear HF HSc HG HL HB hb; have HF := n0; have HSc := n1; have HG := n2; have HL := n3; have HB := nB; clear nB n0 n1 n2 n3)) | (go_at_call 23; (with_reducible refine (s_c2 _ _ (Kd.C_below HF.out (by repeat (first | exact Below.refl _ _ | apply below_alloc | apply pw_below_drewN | apply below_drew1)))).mono ?_); rintro e wn ⟨Af, cf, rfl, hcf, hqf, hb⟩; (have n0 := Aside0.mk (Kd.C_below HF.out (below_step (by repeat (first | exact Below.refl _ _ | apply below_alloc | apply pw_below_drewN | apply below_drew1)) hb)); have n1 := Aside0.mk (Kd.C_below HSc.out (below_step (by repeat (first | exact Below.refl _ _ | apply below_alloc | apply pw_below_drewN | apply below_drew1)) hb)); have n2 := Aside0.mk (Kd.C_below HG.out (below_step (by repeat (first | exact Below.refl _ _ | apply below_alloc | apply pw_below_drewN | apply below_drew1)) hb)); have n3 := Aside0.mk (Kd.C_below HL.out (below_step (by repeat (first | exact Below.refl _ _ | apply below_alloc | apply pw_below_drewN | apply below_drew1)) hb)); have nB := Aside0.mk (below_step (HB.out.trans (Below.mono (by repeat (first | exact Below.refl _ _ | apply below_alloc | apply pw_below_drewN | apply below_drew1)) HB.out.size)) hb); clear HF HSc HG HL HB hb; have HF := n0; have HSc := n1; have HG := n2; have HL := n3; have HB := nB; clear nB n0 n1 n2 n3)) | (go_at_call 22; (with_reducible refine (s_e4 _ _ _ _ _ (Kd.C_below hqf (by repeat (first | exact Below.refl _ _ | apply below_alloc | apply pw_below_drewN | apply below_drew1))) hcf (lit_pcs _ lcB (by decide)) (by decide)).mono ?_); rintro e wn ⟨rfl, hb⟩; (have n0 := Aside0.mk (Kd.C_below HF.out (below_step (by repeat (first | exact Below.refl _ _ | apply below_alloc | apply pw_below_drewN | apply below_drew1)) hb)); have n1 := Aside0.mk (Kd.C_below HSc.out (below_step (by repeat (first | exact Below.refl _ _ | apply below_alloc | apply pw_below_drewN | apply below_drew1)) hb)); have n2 := Aside0.mk (Kd.C_below HG.out (below_step (by repeat (first | exact Below.refl _ _ | apply below_alloc | apply pw_below_drewN | apply below_drew1)) hb)); have n3 := Aside0.mk (Kd.C_below HL.out (below_step (by repeat (first | exact Below.refl _ _ | apply below_alloc | apply pw_below_drewN | apply below_drew1)) hb)); have nB := Aside0.mk (below_step (HB.out.trans (Below.mono (by repeat (first | exact Below.refl _ _ | apply below_alloc | apply pw_below_drewN | apply below_drew1)) HB.out.size)) hb); clear HF HSc HG HL HB hb; have HF := n0; have HSc := n1; have HG := n2; have HL := n3; have HB := nB; clear nB n0 n1 n2 n3)) | (go_at_call 23; (with_reducible refine (s_c3 _ _ (Kd.C_below HF.out (by repeat (first | exact Below.refl _ _ | apply below_alloc | apply pw_below_drewN | apply below_drew1)))).mono ?_); rintro e wn ⟨Ax, cx, rfl, hcx, hqx, hb⟩; (have n0 := Aside0.mk (Kd.C_below HF.out (below_step (by repeat (first | exact Below.refl _ _ | apply below_alloc | apply pw_below_drewN | apply below_drew1)) hb)); have n1 := Aside0.mk (Kd.C_below HSc.out (below_step (by repeat (first | exact Below.refl _ _ | apply below_alloc | apply pw_below_drewN | apply below_drew1)) hb)); have n2 := Aside0.mk (Kd.C_below HG.out (below_step (by repeat (first | exact Below.refl _ _ | apply below_alloc | apply pw_below_drewN | apply below_drew1)) hb)); have n3 := Aside0.mk (Kd.C_below HL.out (below_step (by repeat (first | exact Below.refl _ _ | apply below_alloc | apply pw_below_drewN | apply below_drew1)) hb)); have nB := Aside0.mk (below_step (HB.out.trans (Below.mono (by repeat (first | exact Below.refl _ _ | apply below_alloc | apply pw_below_drewN | apply below_drew1)) HB.out.size)) hb); clear HF HSc HG HL HB hb; have HF := n0; have HSc := n1; have HG := n2; have HL := n3; have HB := nB; clear nB n0 n1 n2 n3)) | (go_at_call 13; (with_reducible refine (s_q1 _ _ (Kd.C_below HF.out (by repeat (first | exact Below.refl _ _ | apply below_alloc | apply pw_below_drewN | apply below_drew1)))).mono ?_); rintro e wn ⟨Ag, cg, rfl, hcg, hqg, hb⟩; (have n0 := Aside0.mk (Kd.C_below HF.out (below_step (by repeat (first | exact Below.refl _ _ | apply below_alloc | apply pw_below_drewN | apply below_drew1)) hb)); have n1 := Aside0.mk (Kd.C_below HSc.out (below_step (by repeat (first | exact Below.refl _ _ | apply below_alloc | apply pw_below_drewN | apply below_drew1)) hb)); have n2 := Aside0.mk (Kd.C_below HG.out (below_step (by repeat (first | exact Below.refl _ _ | apply below_alloc | apply pw_below_drewN | apply below_drew1)) hb)); have n3 := Aside0.mk (Kd.C_below HL.out (below_step (by repeat (first | exact Below.refl _ _ | apply below_alloc | apply pw_below_drewN | apply below_drew1)) hb)); have nB := Aside0.mk (below_step (HB.out.trans (Below.mono (by repeat (first | exact Below.refl _ _ | apply below_alloc | apply pw_below_drewN | apply below_drew1)) HB.out.size)) hb); clear HF HSc HG HL HB hb; have HF := n0; have HSc := n1; have HG := n2; have HL := n3; have HB := nB; clear nB n0 n1 n2 n3)) | (go_at_call 17; (refine (s_r1 _ _ _ _ _ (Kd.C_below hqg (by repeat (first | exact Below.refl _ _ | apply below_alloc | apply pw_below_drewN | apply below_drew1))) hcg (lit_pcs _ lpA (by decide)) (by decide)).mono ?_); rintro e wn ⟨rfl, nd, rfl⟩) | (go_at_call 13; (with_reducible refine (s_q2 _ _ (Kd.C_below HF.out (by repeat (first | exact Below.refl _ _ | apply below_alloc | apply pw_below_drewN | apply below_drew1)))).mono ?_); rintro e wn ⟨Ax, cx, rfl, hcx, hqx, hb⟩; (have n0 := Aside0.mk (Kd.C_below HF.out (below_step (by repeat (first | exact Below.refl _ _ | apply below_alloc | apply pw_below_drewN | apply below_drew1)) hb)); have n1 := Aside0.mk (Kd.C_below HSc.out (below_step (by repeat (first | exact Below.refl _ _ | apply below_alloc | apply pw_below_drewN | apply below_drew1)) hb)); have n2 := Aside0.mk (Kd.C_below HG.out (below_step (by repeat (first | exact Below.refl _ _ | apply below_alloc | apply pw_below_drewN | apply below_drew1)) hb)); have n3 := Aside0.mk (Kd.C_below HL.out (below_step (by repeat (first | exact Below.refl _ _ | apply below_alloc | apply pw_below_drewN | apply below_drew1)) hb)); have nB := Aside0.mk (below_step (HB.out.trans (Below.mono (by repeat (first | exact Below.refl _ _ | apply below_alloc | apply pw_below_drewN | apply below_drew1)) HB.out.size)) hb); clear HF HSc HG HL HB hb; have HF := n0; have HSc := n1; have HG := n2; have HL := n3; have HB := nB; clear nB n0 n1 n2 n3)) | (go_at_call 25; (with_reducible refine (s_t1 _ _ (Kd.C_below HF.out (by repeat (first | exact Below.refl _ _ | apply below_alloc | apply pw_below_drewN | apply below_drew1))) _ (Kd.C_below HL.out (by repeat (first | exact Below.refl _ _ | apply below_alloc | apply pw_below_drewN | apply below_drew1)))).mono ?_); rintro e wn ⟨gt, ct, rfl, htq, hb⟩; (have n0 := Aside0.mk (Kd.C_below HF.out (below_step (by repeat (first | exact Below.refl _ _ | apply below_alloc | apply pw_below_drewN | apply below_drew1)) hb)); have n1 := Aside0.mk (Kd.C_below HSc.out (below_step (by repeat (first | exact Below.refl _ _ | apply below_alloc | apply pw_below_drewN | apply below_drew1)) hb)); have n2 := Aside0.mk (Kd.C_below HG.out (below_step (by repeat (first | exact Below.refl _ _ | apply below_alloc | apply pw_below_drewN | apply below_drew1)) hb)); have n3 := Aside0.mk (Kd.C_below HL.out (below_step (by repeat (first | exact Below.refl _ _ | apply below_alloc | apply pw_below_drewN | apply below_drew1)) hb)); have nB := Aside0.mk (below_step (HB.out.trans (Below.mono (by repeat (first | exact Below.refl _ _ | apply below_alloc | apply pw_below_drewN | apply below_drew1)) HB.out.size)) hb); clear HF HSc HG HL HB hb; have HF := n0; have HSc := n1; have HG := n2; have HL := n3; have HB := nB; clear nB n0 n1 n2 n3)))
 have hx0 := ((below_alloc (Below.refl _ _) (.cells #[.int .i64 7] 3)).cell (by simp)).trans (World.cell?_alloc_new wn #[.slice (some ⟨gt, 0, none⟩) 5 ct, .int .i64 0] 52 0)
 have hx1 := ((below_alloc (Below.refl _ _) (.cells #[.int .i64 7] 3)).cell (by simp)).trans (World.cell?_alloc_new wn #[.slice (some ⟨gt, 0, none⟩) 5 ct, .int .i64 0] 52 1)
 have hbN : Below wn.heap.size wn ((wn.alloc (.cells #[.slice (some ⟨gt, 0, none⟩) 5 ct, .int .i64 0] 52)).alloc (.cells #[.int .i64 7] 3)) := below_alloc (below_alloc (Below.refl _ _) _) _
 have hi := lit_int (wn.alloc (.cells #[.slice (some ⟨gt, 0, none⟩) 5 ct, .int .i64 0] 52)) 7
 rw [World.size_alloc] at hi
 have HI := Aside0.mk hi
 have m1 := Aside0.mk (Kd.C_below HF.out hbN)
 have m2 := Aside0.mk (Kd.C_below HSc.out hbN)
 have m3 := Aside0.mk (Kd.C_below HG.out hbN)
 have HT := Aside0.mk (Kd.C_below htq hbN)
 have m5 := Aside0.mk (HB.out.trans (Below.mono hbN HB.out.size))
 clear HF HSc HG HL HB htq hbN hi
 have HF := m1
 have HSc := m2
 have HG := m3
 have HB := m5
 clear m1 m2 m3 m5
 generalize (wn.alloc (.cells #[.slice (some ⟨gt, 0, none⟩) 5 ct, .int .i64 0] 52)).alloc (.cells #[.int .i64 7] 3) = w7 at hx0 hx1 HI HF HSc HG HT HB ⊢
 generalize wn.heap.size = gx at hx0 hx1 HI ⊢
 go_wp2_with (first | (go_at_call 29; (with_reducible refine (s_x1 _ _ (Kd.C_below HF.out (by repeat (first | exact Below.refl _ _ | apply below_alloc | apply pw_below_drewN | apply below_drew1))) _ HI.out).mono ?_); rintro e wn ⟨Ae, ce, rfl, hce, hqe, hb⟩; (have n0 := Aside0.mk (Kd.C_below HF.out (below_step (by repeat (first | exact Below.refl _ _ | apply below_alloc | apply pw_below_drewN | apply below_drew1)) hb)); have n1 := Aside0.mk (Kd.C_below HSc.out (below_step (by repeat (first | exact Below.refl _ _ | apply below_alloc | apply pw_below_drewN | apply below_drew1)) hb)); have n2 := Aside0.mk (Kd.C_below HG.out (below_step (by repeat (first | exact Below.refl _ _ | apply below_alloc | apply pw_below_drewN | apply below_drew1)) hb)); have n3 := Aside0.mk (Kd.C_below HT.out (below_step (by repeat (first | exact Below.refl _ _ | apply below_alloc | apply pw_below_drewN | apply below_drew1)) hb)); have hy0 := ((below_step (by repeat (first | exact Below.refl _ _ | apply below_alloc | apply pw_below_drewN | apply below_drew1)) hb).cell (World.block_lt_of_cell? _ _ hx0)).trans hx0; have hy1 := ((below_step (by repeat (first | exact Below.refl _ _ | apply below_alloc | apply pw_below_drewN | apply below_drew1)) hb).cell (World.block_lt_of_cell? _ _ hx1)).trans hx1; have nB := Aside0.mk (below_step (HB.out.trans (Below.mono (by repeat (first | exact Below.refl _ _ | apply below_alloc | apply pw_below_drewN | apply below_drew1)) HB.out.size)) hb); clear hx0 hx1; have hx0 := hy0; have hx1 := hy1; clear hy0 hy1 HF HSc HG HT HB hb; have HF := n0; have HSc := n1; have HG := n2; have HT := n3; have HB := nB; clear nB n0 n1 n2 n3)) | (go_at_call 17; (refine (s_r2 _ _ _ _ _ (Kd.C_below hqe (by repeat (first | exact Below.refl _ _ | apply below_alloc | apply pw_below_drewN | apply below_drew1))) hce (Kd.C_below HG.out (by repeat (first | exact Below.refl _ _ | apply below_alloc | apply pw_below_drewN | apply below_drew1))) (by decide)).mono ?_); rintro e wn ⟨rfl, nd, rfl⟩) | (go_at_call 25; (with_reducible refine (s_t2 _ _ (Kd.C_below HG.out (by repeat (first | exact Below.refl _ _ | apply below_alloc | apply pw_below_drewN | apply below_drew1)))).mono ?_); rintro e wn ⟨Ax, cx, rfl, -, hb⟩; (have n0 := Aside0.mk (Kd.C_below HF.out (below_step (by repeat (first | exact Below.refl _ _ | apply below_alloc | apply pw_below_drewN | apply below_drew1)) hb)); have n1 := Aside0.mk (Kd.C_below HSc.out (below_step (by repeat (first | exact Below.refl _ _ | apply below_alloc | apply pw_below_drewN | apply below_drew1)) hb)); have n2 := Aside0.mk (Kd.C_below HG.out (below_step (by repeat (first | exact Below.refl _ _ | apply below_alloc | apply pw_below_drewN | apply below_drew1)) hb)); have n3 := Aside0.mk (Kd.C_below HT.out (below_step (by repeat (first | exact Below.refl _ _ | apply below_alloc | apply pw_below_drewN | apply below_drew1)) hb)); have hy0 := ((below_step (by repeat (first | exact Below.refl _ _ | apply below_alloc | apply pw_below_drewN | apply below_drew1)) hb).cell (World.block_lt_of_cell? _ _ hx0)).trans hx0; have hy1 := ((below_step (by repeat (first | exact Below.refl _ _ | apply below_alloc | apply pw_below_drewN | apply below_drew1)) hb).cell (World.block_lt_of_cell? _ _ hx1)).trans hx1; have nB := Aside0.mk (below_step (HB.out.trans (Below.mono (by repeat (first | exact Below.refl _ _ | apply below_alloc | apply pw_below_drewN | apply below_drew1)) HB.out.size)) hb); clear hx0 hx1; have hx0 := hy0; have hx1 := hy1; clear hy0 hy1 HF HSc HG HT HB hb; have HF := n0; have HSc := n1; have HG := n2; have HT := n3; have HB := nB; clear nB n0 n1 n2 n3)) | (go_at_call 25; (with_reducible refine (s_t3 _ _ (Kd.C_below HF.out (by repeat (first | exact Below.refl _ _ | apply below_alloc | apply pw_below_drewN | apply below_drew1)))).mono ?_); rintro e wn ⟨Ax, cx, rfl, -, hb⟩; (have n0 := Aside0.mk (Kd.C_below HF.out (below_step (by repeat (first | exact Below.refl _ _ | apply below_alloc | apply pw_below_drewN | apply below_drew1)) hb)); have n1 := Aside0.mk (Kd.C_below HSc.out (below_step (by repeat (first | exact Below.refl _ _ | apply below_alloc | apply pw_below_drewN | apply below_drew1)) hb)); have n2 := Aside0.mk (Kd.C_below HG.out (below_step (by repeat (first | exact Below.refl _ _ | apply below_alloc | apply pw_below_drewN | apply below_drew1)) hb)); have n3 := Aside0.mk (Kd.C_below HT.out (below_step (by repeat (first | exact Below.refl _ _ | apply below_alloc | apply pw_below_drewN | apply below_drew1)) hb)); have hy0 := ((below_step (by repeat (first | exact Below.refl _ _ | apply below_alloc | apply pw_below_drewN | apply below_drew1)) hb).cell (World.block_lt_of_cell? _ _ hx0)).trans hx0; have hy1 := ((below_step (by repeat (first | exact Below.refl _ _ | apply below_alloc | apply pw_below_drewN | apply below_drew1)) hb).cell (World.block_lt_of_cell? _ _ hx1)).trans hx1; have nB := Aside0.mk (below_step (HB.out.trans (Below.mono (by repeat (first | exact Below.refl _ _ | apply below_alloc | apply pw_below_drewN | apply below_drew1)) HB.out.size)) hb); clear hx0 hx1; have hx0 := hy0; have hx1 := hy1; clear hy0 hy1 HF HSc HG HT HB hb; have HF := n0; have HSc := n1; have HG := n2; have HT := n3; have HB := nB; clear nB n0 n1 n2 n3)) | (go_at_call 19; (with_reducible refine (s_z1 _ _ _ (Kd.C_below HSc.out (by repeat (first | exact Below.refl _ _ | apply below_alloc | apply pw_below_drewN | apply below_drew1))) hcb).mono ?_); rintro e wn ⟨rfl, hb⟩; (have n0 := Aside0.mk (Kd.C_below HF.out (below_step (by repeat (first | exact Below.refl _ _ | apply below_alloc | apply pw_below_drewN | apply below_drew1)) hb)); have n1 := Aside0.mk (Kd.C_below HSc.out (below_step (by repeat (first | exact Below.refl _ _ | apply below_alloc | apply pw_below_drewN | apply below_drew1)) hb)); have n2 := Aside0.mk (Kd.C_below HG.out (below_step (by repeat (first | exact Below.refl _ _ | apply below_alloc | apply pw_below_drewN | apply below_drew1)) hb)); have n3 := Aside0.mk (Kd.C_below HT.out (below_step (by repeat (first | exact Below.refl _ _ | apply below_alloc | apply pw_below_drewN | apply below_drew1)) hb)); have hy0 := ((below_step (by repeat (first | exact Below.refl _ _ | apply below_alloc | apply pw_below_drewN | apply below_drew1)) hb).cell (World.block_lt_of_cell? _ _ hx0)).trans hx0; have hy1 := ((below_step (by repeat (first | exact Below.refl _ _ | apply below_alloc | apply pw_below_drewN | apply below_drew1)) hb).cell (World.block_lt_of_cell? _ _ hx1)).trans hx1; have nB := Aside0.mk (below_step (HB.out.trans (Below.mono (by repeat (first | exact Below.refl _ _ | apply below_alloc | apply pw_below_drewN | apply below_drew1)) HB.out.size)) hb); clear hx0 hx1; have hx0 := hy0; have hx1 := hy1; clear hy0 hy1 HF HSc HG HT HB hb; have HF := n0; have HSc := n1; have HG := n2; have HT := n3; have HB := nB; clear nB n0 n1 n2 n3)) | (go_at_call 27; (with_reducible refine (s_v1 _ _ _ (Kd.C_below HSc.out (by repeat (first | exact Below.refl _ _ | apply below_alloc | apply pw_below_drewN | apply below_drew1))) hcb).mono ?_); rintro e wn ⟨rfl, hb⟩; (have n0 := Aside0.mk (Kd.C_below HF.out (below_step (by repeat (first | exact Below.refl _ _ | apply below_alloc | apply pw_below_drewN | apply below_drew1)) hb)); have n1 := Aside0.mk (Kd.C_below HSc.out (below_step (by repeat (first | exact Below.refl _ _ | apply below_alloc | apply pw_below_drewN | apply below_drew1)) hb)); have n2 := Aside0.mk (Kd.C_below HG.out (below_step (by repeat (first | exact Below.refl _ _ | apply below_alloc | apply pw_below_drewN | apply below_drew1)) hb)); have n3 := Aside0.mk (Kd.C_below HT.out (below_step (by repeat (first | exact Below.refl _ _ | apply below_alloc | apply pw_below_drewN | apply below_drew1)) hb)); have hy0 := ((below_step (by repeat (first | exact Below.refl _ _ | apply below_alloc | apply pw_below_drewN | apply below_drew1)) hb).cell (World.block_lt_of_cell? _ _ hx0)).trans hx0; have hy1 := ((below_step (by repeat (first | exact Below.refl _ _ | apply below_alloc | apply pw_below_drewN | apply below_drew1)) hb).cell (World.block_lt_of_cell? _ _ hx1)).trans hx1; have nB := Aside0.mk (below_step (HB.out.trans (Below.mono (by repeat (first | exact Below.refl _ _ | apply below_alloc | apply pw_below_drewN | apply below_drew1)) HB.out.size)) hb); clear hx0 hx1; have hx0 := hy0; have hx1 := hy1; clear hy0 hy1 HF HSc HG HT HB hb; have HF := n0; have HSc := n1; have HG := n2; have HT := n3; have HB := nB; clear nB n0 n1 n2 n3)) | (go_at_call 27; (with_reducible refine (s_v2 _ _ (lit_pcs _ [⟨0, 0, 1⟩, ⟨0, 0, 1⟩] (by decide))).mono ?_); rintro e wn ⟨rfl, hb⟩; (have n0 := Aside0.mk (Kd.C_below HF.out (below_step (by repeat (first | exact Below.refl _ _ | apply below_alloc | apply pw_below_drewN | apply below_drew1)) hb)); have n1 := Aside0.mk (Kd.C_below HSc.out (below_step (by repeat (first | exact Below.refl _ _ | apply below_alloc | apply pw_below_drewN | apply below_drew1)) hb)); have n2 := Aside0.mk (Kd.C_below HG.out (below_step (by repeat (first | exact Below.refl _ _ | apply below_alloc | apply pw_below_drewN | apply below_drew1)) hb)); have n3 := Aside0.mk (Kd.C_below HT.out (below_step (by repeat (first | exact Below.refl _ _ | apply below_alloc | apply pw_below_drewN | apply below_drew1)) hb)); have hy0 := ((below_step (by repeat (first | exact Below.refl _ _ | apply below_alloc | apply pw_below_drewN | apply below_drew1)) hb).cell (World.block_lt_of_cell? _ _ hx0)).trans hx0; have hy1 := ((below_step (by repeat (first | exact Below.refl _ _ | apply below_alloc | apply pw_below_drewN | apply below_drew1)) hb).cell (World.block_lt_of_cell? _ _ hx1)).trans hx1; have nB := Aside0.mk (below_step (HB.out.trans (Below.mono (by repeat (first | exact Below.refl _ _ | apply below_alloc | apply pw_below_drewN | apply below_drew1)) HB.out.size)) hb); clear hx0 hx1; have hx0 := hy0; have hx1 := hy1; clear hy0 hy1 HF HSc HG HT HB hb; have HF := n0; have HSc := n1; have HG := n2; have HT := n3; have HB := nB; clear nB n0 n1 n2 n3)) | ((with_reducible refine gate_dst (N := 116) rfl ?_); (refine gate_guard (by rfl) ?_; dsimp only); go_loud (refine wpList_convert rfl 50 9 (.tmp 115) rfl _ _ rfl _ (run_convert_bytes_arg _ 50 5 hu50 hu5 gt 0 5 ct [0, 0, 0, 120, 121] rfl (u8_cells HT.out (by repeat (first | exact Below.refl _ _ | apply below_alloc | apply pw_below_drewN | apply below_drew1))) 9 Try.underlying9) ?_)))
 ·go_ret
  exact ⟨rfl, by repeat (first | exact HB.out | apply below_alloc | apply pw_below_drewN | apply below_drew1)⟩
 ·exfalso
  go_ways
  rename_i hne
  first | exact hne rfl | exact hne (by decide) | exact hne (by simp [strOfNums])

end

/-! ### r08_One: function 35 -/
def r08_One.f (a0_0 : Int) (a0_1 : Int) (a0_2 : Int) (a1_0 : Int) (a1_1 : Int) (a1_2 : Int) : Option (Bool) := if a0_0 = a1_0 then (if a0_0 ≤ 0 then (some true) else (some (a1_1 == (wrap64 (a0_1 + a0_2))))) else (some false)
set_option maxHeartbeats 8000000 in
set_option maxRecDepth 100000 in
theorem r08_One.calls (a0_0 : Int) (a0_1 : Int) (a0_2 : Int) (a1_0 : Int) (a1_1 : Int) (a1_2 : Int) (r : Bool) (w : World) (h : r08_One.f a0_0 a0_1 a0_2 a1_0 a1_1 a1_2 = some r) :
  Calls Try.prog 35 #[.agg #[.int .i64 a0_0, .int .i64 a0_1, .int .i64 a0_2], .agg #[.int .i64 a1_0, .int .i64 a1_1, .int .i64 a1_2]] w fun e w' => e = .returned (.bool r) ∧ Below w.heap.size w w' := by
 have hu58 := Try.underlying58
 have HB := Aside0.mk (Below.refl w.heap.size w)
 have H : (if a0_0 = a1_0 then (if a0_0 ≤ 0 then (some true) else (some (a1_1 == (wrap64 (a0_1 + a0_2))))) else (some false)) = some r := h
 clear h
 by_cases c3 : a0_0 = a1_0
 ·rw [if_pos c3] at H
  have c3b0 : (a0_0 == a1_0) = true := beq_iff_eq.mpr c3
  have c3b1 : (a0_0 != a1_0) = false := bne_eq_false_iff_eq.mpr c3
  clear c3
  by_cases c4 : a0_0 ≤ 0
  ·rw [if_pos c4] at H
   have c4b0 : decide (a0_0 ≤ 0) = true := decide_eq_true c4
   clear c4
   obtain rfl := Option.some.inj H
   go_enter Try.func35, Try.ntmps35
   go_wp2_with (first | ((with_reducible refine gate_dst (N := 2) rfl ?_); refine box_event ?hg (N := 2) ?hd (cs := #[.int .i64 a0_0, .int .i64 a0_1, .int .i64 a0_2]) (t := 58) ?hr ?_; (case hd => rfl); (case hg => rfl); (case hr => first | (go_simp; done) | (go_simp; rfl)); intro gb177 hg w5 hbox hb; have n0_ := Aside0.mk (below_step (by repeat (first | (with_reducible first | exact HB.out | apply below_alloc | apply pw_below_drewN | apply below_drew1) | exact HB.out)) hb); have n1_ := Aside0.mk (hbox); have n2_ := Aside0.mk ((by rw [hg]; exact (below_size (by repeat (first | (with_reducible first | exact HB.out | apply below_alloc | apply pw_below_drewN | apply below_drew1) | exact HB.out))) : w.heap.size ≤ gb177)); have n3_ := Aside0.mk ((by rw [hg]; exact (below_size (by repeat (first | (with_reducible first | exact HB.out | apply below_alloc | apply pw_below_drewN | apply below_drew1) | exact HB.out))) : w.heap.size ≤ gb177)); clear HB; have HB := n0_; have BK177 := n1_; have GW177 := n2_; have GE177 := n3_; clear n0_ n1_ n2_ n3_; clear hb hbox hg) | ((with_reducible refine gate_dst (N := 3) rfl ?_); refine box_event ?hg (N := 3) ?hd (cs := #[.int .i64 a1_0, .int .i64 a1_1, .int .i64 a1_2]) (t := 58) ?hr ?_; (case hd => rfl); (case hg => rfl); (case hr => first | (go_simp; done) | (go_simp; rfl)); intro gb178 hg w6 hbox hb; have n0_ := Aside0.mk (blk_below (g := gb177) (o := .cells #[.int .i64 a0_0, .int .i64 a0_1, .int .i64 a0_2] 58 (0, 0)) (by (with_reducible repeat (first | refine blk_drewN ?_ _ | refine blk_drew ?_ | refine blk_alloc ?_ _)); exact BK177.out) hb); have n1_ := Aside0.mk (below_step (by repeat (first | (with_reducible first | exact HB.out | apply below_alloc | apply pw_below_drewN | apply below_drew1 | refine below_set ?_ GE177.out) | exact HB.out)) hb); have n2_ := Aside0.mk (hbox); have n3_ := Aside0.mk ((by rw [hg]; exact (below_size (by repeat (first | (with_reducible first | exact HB.out | apply below_alloc | apply pw_below_drewN | apply below_drew1 | refine below_set ?_ GE177.out) | exact HB.out))) : w.heap.size ≤ gb178)); have n4_ := Aside0.mk ((by rw [hg]; exact (below_size (by repeat (first | (with_reducible first | exact HB.out | apply below_alloc | apply pw_below_drewN | apply below_drew1 | refine below_set ?_ GE177.out) | exact HB.out))) : w.heap.size ≤ gb178)); have n5_ := Aside0.mk ((by rw [hg]; exact Nat.ne_of_lt (blk_lt (g := gb177) (o := .cells #[.int .i64 a0_0, .int .i64 a0_1, .int .i64 a0_2] 58 (0, 0)) (by (with_reducible repeat (first | refine blk_drewN ?_ _ | refine blk_drew ?_ | refine blk_alloc ?_ _)); exact BK177.out)) : gb177 ≠ gb178)); have n6_ := Aside0.mk ((by rw [hg]; exact Nat.ne_of_gt (blk_lt (g := gb177) (o := .cells #[.int .i64 a0_0, .int .i64 a0_1, .int .i64 a0_2] 58 (0, 0)) (by (with_reducible repeat (first | refine blk_drewN ?_ _ | refine blk_drew ?_ | refine blk_alloc ?_ _)); exact BK177.out)) : gb178 ≠ gb177)); clear BK177; clear HB; have BK177 := n0_; have HB := n1_; have BK178 := n2_; have GW178 := n3_; have GE178 := n4_; have NB177_178 := n5_; have NB178_177 := n6_; clear n0_ n1_ n2_ n3_ n4_ n5_ n6_; clear hb hbox hg; have hnb7 := NB177_178.out; have hnc7 := NB178_177.out; have hcz8_0 : w6.cell? ⟨gb177, 0, none⟩ = some (.int .i64 a0_0) := (blk_cell BK177.out 0).trans rfl; have hcz8_1 : w6.cell? ⟨gb177, 1, none⟩ = some (.int .i64 a0_1) := (blk_cell BK177.out 1).trans rfl; have hcz8_2 : w6.cell? ⟨gb177, 2, none⟩ = some (.int .i64 a0_2) := (blk_cell BK177.out 2).trans rfl; have hfz8_0 := blk_frozen BK177.out 0; have hfz8_1 := blk_frozen BK177.out 1; have hfz8_2 := blk_frozen BK177.out 2; have hcz9_0 : w6.cell? ⟨gb178, 0, none⟩ = some (.int .i64 a1_0) := (blk_cell BK178.out 0).trans rfl; have hcz9_1 : w6.cell? ⟨gb178, 1, none⟩ = some (.int .i64 a1_1) := (blk_cell BK178.out 1).trans rfl; have hcz9_2 : w6.cell? ⟨gb178, 2, none⟩ = some (.int .i64 a1_2) := (blk_cell BK178.out 2).trans rfl; have hfz9_0 := blk_frozen BK178.out 0; have hfz9_1 := blk_frozen BK178.out 1; have hfz9_2 := blk_frozen BK178.out 2))
   go_ret
   exact ⟨by first | rfl | (simp [errW_none, errW_some] <;> rfl) | (simp [*, errW_none, errW_some] <;> rfl) | (exfalso; simp_all only [aside0_iff, Option.some.injEq, reduceCtorEq]), by repeat (first | (with_reducible first | exact HB.out | apply below_alloc | apply pw_below_drewN | apply below_drew1 | refine below_set ?_ GE177.out | refine below_set ?_ GE178.out) | exact HB.out)⟩
  ·rw [if_neg c4] at H
   have c4b0 : decide (a0_0 ≤ 0) = false := decide_eq_false c4
   clear c4
   obtain rfl := Option.some.inj H
   go_enter Try.func35, Try.ntmps35
   go_wp2_with (first | ((with_reducible refine gate_dst (N := 2) rfl ?_); refine box_event ?hg (N := 2) ?hd (cs := #[.int .i64 a0_0, .int .i64 a0_1, .int .i64 a0_2]) (t := 58) ?hr ?_; (case hd => rfl); (case hg => rfl); (case hr => first | (go_simp; done) | (go_simp; rfl)); intro gb177 hg w10 hbox hb; have n0_ := Aside0.mk (below_step (by repeat (first | (with_reducible first | exact HB.out | apply below_alloc | apply pw_below_drewN | apply below_drew1) | exact HB.out)) hb); have n1_ := Aside0.mk (hbox); have n2_ := Aside0.mk ((by rw [hg]; exact (below_size (by repeat (first | (with_reducible first | exact HB.out | apply below_alloc | apply pw_below_drewN | apply below_drew1) | exact HB.out))) : w.heap.size ≤ gb177)); have n3_ := Aside0.mk ((by rw [hg]; exact (below_size (by repeat (first | (with_reducible first | exact HB.out | apply below_alloc | apply pw_below_drewN | apply below_drew1) | exact HB.out))) : w.heap.size ≤ gb177)); clear HB; have HB := n0_; have BK177 := n1_; have GW177 := n2_; have GE177 := n3_; clear n0_ n1_ n2_ n3_; clear hb hbox hg) | ((with_reducible refine gate_dst (N := 3) rfl ?_); refine box_event ?hg (N := 3) ?hd (cs := #[.int .i64 a1_0, .int .i64 a1_1, .int .i64 a1_2]) (t := 58) ?hr ?_; (case hd => rfl); (case hg => rfl); (case hr => first | (go_simp; done) | (go_simp; rfl)); intro gb178 hg w11 hbox hb; have n0_ := Aside0.mk (blk_below (g := gb177) (o := .cells #[.int .i64 a0_0, .int .i64 a0_1, .int .i64 a0_2] 58 (0, 0)) (by (with_reducible repeat (first | refine blk_drewN ?_ _ | refine blk_drew ?_ | refine blk_alloc ?_ _)); exact BK177.out) hb); have n1_ := Aside0.mk (below_step (by repeat (first | (with_reducible first | exact HB.out | apply below_alloc | apply pw_below_drewN | apply below_drew1 | refine below_set ?_ GE177.out) | exact HB.out)) hb); have n2_ := Aside0.mk (hbox); have n3_ := Aside0.mk ((by rw [hg]; exact (below_size (by repeat (first | (with_reducible first | exact HB.out | apply below_alloc | apply pw_below_drewN | apply below_drew1 | refine below_set ?_ GE177.out) | exact HB.out))) : w.heap.size ≤ gb178)); have n4_ := Aside0.mk ((by rw [hg]; exact (below_size (by repeat (first | (with_reducible first | exact HB.out | apply below_alloc | apply pw_below_drewN | apply below_drew1 | refine below_set ?_ GE177.out) | exact HB.out))) : w.heap.size ≤ gb178)); have n5_ := Aside0.mk ((by rw [hg]; exact Nat.ne_of_lt (blk_lt (g := gb177) (o := .cells #[.int .i64 a0_0, .int .i64 a0_1, .int .i64 a0_2] 58 (0, 0)) (by (with_reducible repeat (first | refine blk_drewN ?_ _ | refine blk_drew ?_ | refine blk_alloc ?_ _)); exact BK177.out)) : gb177 ≠ gb178)); have n6_ := Aside0.mk ((by rw [hg]; exact Nat.ne_of_gt (blk_lt (g := gb177) (o := .cells #[.int .i64 a0_0, .int .i64 a0_1, .int .i64 a0_2] 58 (0, 0)) (by (with_reducible repeat (first | refine blk_drewN ?_ _ | refine blk_drew ?_ | refine blk_alloc ?_ _)); exact BK177.out)) : gb178 ≠ gb177)); clear BK177; clear HB; have BK177 := n0_; have HB := n1_; have BK178 := n2_; have GW178 := n3_; have GE178 := n4_; have NB177_178 := n5_; have NB178_177 := n6_; clear n0_ n1_ n2_ n3_ n4_ n5_ n6_; clear hb hbox hg; have hnb12 := NB177_178.out; have hnc12 := NB178_177.out; have hcz13_0 : w11.cell? ⟨gb177, 0, none⟩ = some (.int .i64 a0_0) := (blk_cell BK177.out 0).trans rfl; have hcz13_1 : w11.cell? ⟨gb177, 1, none⟩ = some (.int .i64 a0_1) := (blk_cell BK177.out 1).trans rfl; have hcz13_2 : w11.cell? ⟨gb177, 2, none⟩ = some (.int .i64 a0_2) := (blk_cell BK177.out 2).trans rfl; have hfz13_0 := blk_frozen BK177.out 0; have hfz13_1 := blk_frozen BK177.out 1; have hfz13_2 := blk_frozen BK177.out 2; have hcz14_0 : w11.cell? ⟨gb178, 0, none⟩ = some (.int .i64 a1_0) := (blk_cell BK178.out 0).trans rfl; have hcz14_1 : w11.cell? ⟨gb178, 1, none⟩ = some (.int .i64 a1_1) := (blk_cell BK178.out 1).trans rfl; have hcz14_2 : w11.cell? ⟨gb178, 2, none⟩ = some (.int .i64 a1_2) := (blk_cell BK178.out 2).trans rfl; have hfz14_0 := blk_frozen BK178.out 0; have hfz14_1 := blk_frozen BK178.out 1; have hfz14_2 := blk_frozen BK178.out 2))
   go_ret
   exact ⟨by first | rfl | (simp [errW_none, errW_some] <;> rfl) | (simp [*, errW_none, errW_some] <;> rfl) | (exfalso; simp_all only [aside0_iff, Option.some.injEq, reduceCtorEq]), by repeat (first | (with_reducible first | exact HB.out | apply below_alloc | apply pw_below_drewN | apply below_drew1 | refine below_set ?_ GE177.out | refine below_set ?_ GE178.out) | exact HB.out)⟩
 ·rw [if_neg c3] at H
  have c3b0 : (a0_0 == a1_0) = false := beq_eq_false_iff_ne.mpr c3
  have c3b1 : (a0_0 != a1_0) = true := bne_iff_ne.mpr c3
  obtain rfl := Option.some.inj H
  go_enter Try.func35, Try.ntmps35
  go_wp2_with (first | ((with_reducible refine gate_dst (N := 2) rfl ?_); refine box_event ?hg (N := 2) ?hd (cs := #[.int .i64 a0_0, .int .i64 a0_1, .int .i64 a0_2]) (t := 58) ?hr ?_; (case hd => rfl); (case hg => rfl); (case hr => first | (go_simp; done) | (go_simp; rfl)); intro gb177 hg w15 hbox hb; have n0_ := Aside0.mk (below_step (by repeat (first | (with_reducible first | exact HB.out | apply below_alloc | apply pw_below_drewN | apply below_drew1) | exact HB.out)) hb); have n1_ := Aside0.mk (hbox); have n2_ := Aside0.mk ((by rw [hg]; exact (below_size (by repeat (first | (with_reducible first | exact HB.out | apply below_alloc | apply pw_below_drewN | apply below_drew1) | exact HB.out))) : w.heap.size ≤ gb177)); have n3_ := Aside0.mk ((by rw [hg]; exact (below_size (by repeat (first | (with_reducible first | exact HB.out | apply below_alloc | apply pw_below_drewN | apply below_drew1) | exact HB.out))) : w.heap.size ≤ gb177)); clear HB; have HB := n0_; have BK177 := n1_; have GW177 := n2_; have GE177 := n3_; clear n0_ n1_ n2_ n3_; clear hb hbox hg) | ((with_reducible refine gate_dst (N := 3) rfl ?_); refine box_event ?hg (N := 3) ?hd (cs := #[.int .i64 a1_0, .int .i64 a1_1, .int .i64 a1_2]) (t := 58) ?hr ?_; (case hd => rfl); (case hg => rfl); (case hr => first | (go_simp; done) | (go_simp; rfl)); intro gb178 hg w16 hbox hb; have n0_ := Aside0.mk (blk_below (g := gb177) (o := .cells #[.int .i64 a0_0, .int .i64 a0_1, .int .i64 a0_2] 58 (0, 0)) (by (with_reducible repeat (first | refine blk_drewN ?_ _ | refine blk_drew ?_ | refine blk_alloc ?_ _)); exact BK177.out) hb); have n1_ := Aside0.mk (below_step (by repeat (first | (with_reducible first | exact HB.out | apply below_alloc | apply pw_below_drewN | apply below_drew1 | refine below_set ?_ GE177.out) | exact HB.out)) hb); have n2_ := Aside0.mk (hbox); have n3_ := Aside0.mk ((by rw [hg]; exact (below_size (by repeat (first | (with_reducible first | exact HB.out | apply below_alloc | apply pw_below_drewN | apply below_drew1 | refine below_set ?_ GE177.out) | exact HB.out))) : w.heap.size ≤ gb178)); have n4_ := Aside0.mk ((by rw [hg]; exact (below_size (by repeat (first | (with_reducible first | exact HB.out | apply below_alloc | apply pw_below_drewN | apply below_drew1 | refine below_set ?_ GE177.out) | exact HB.out))) : w.heap.size ≤ gb178)); have n5_ := Aside0.mk ((by rw [hg]; exact Nat.ne_of_lt (blk_lt (g := gb177) (o := .cells #[.int .i64 a0_0, .int .i64 a0_1, .int .i64 a0_2] 58 (0, 0)) (by (with_reducible repeat (first | refine blk_drewN ?_ _ | refine blk_drew ?_ | refine blk_alloc ?_ _)); exact BK177.out)) : gb177 ≠ gb178)); have n6_ := Aside0.mk ((by rw [hg]; exact Nat.ne_of_gt (blk_lt (g := gb177) (o := .cells #[.int .i64 a0_0, .int .i64 a0_1, .int .i64 a0_2] 58 (0, 0)) (by (with_reducible repeat (first | refine blk_drewN ?_ _ | refine blk_drew ?_ | refine blk_alloc ?_ _)); exact BK177.out)) : gb178 ≠ gb177)); clear BK177; clear HB; have BK177 := n0_; have HB := n1_; have BK178 := n2_; have GW178 := n3_; have GE178 := n4_; have NB177_178 := n5_; have NB178_177 := n6_; clear n0_ n1_ n2_ n3_ n4_ n5_ n6_; clear hb hbox hg; have hnb17 := NB177_178.out; have hnc17 := NB178_177.out; have hcz18_0 : w16.cell? ⟨gb177, 0, none⟩ = some (.int .i64 a0_0) := (blk_cell BK177.out 0).trans rfl; have hcz18_1 : w16.cell? ⟨gb177, 1, none⟩ = some (.int .i64 a0_1) := (blk_cell BK177.out 1).trans rfl; have hcz18_2 : w16.cell? ⟨gb177, 2, none⟩ = some (.int .i64 a0_2) := (blk_cell BK177.out 2).trans rfl; have hfz18_0 := blk_frozen BK177.out 0; have hfz18_1 := blk_frozen BK177.out 1; have hfz18_2 := blk_frozen BK177.out 2; have hcz19_0 : w16.cell? ⟨gb178, 0, none⟩ = some (.int .i64 a1_0) := (blk_cell BK178.out 0).trans rfl; have hcz19_1 : w16.cell? ⟨gb178, 1, none⟩ = some (.int .i64 a1_1) := (blk_cell BK178.out 1).trans rfl; have hcz19_2 : w16.cell? ⟨gb178, 2, none⟩ = some (.int .i64 a1_2) := (blk_cell BK178.out 2).trans rfl; have hfz19_0 := blk_frozen BK178.out 0; have hfz19_1 := blk_frozen BK178.out 1; have hfz19_2 := blk_frozen BK178.out 2))
  go_ret
  exact ⟨by first | rfl | (simp [errW_none, errW_some] <;> rfl) | (simp [*, errW_none, errW_some] <;> rfl) | (exfalso; simp_all only [aside0_iff, Option.some.injEq, reduceCtorEq]), by repeat (first | (with_reducible first | exact HB.out | apply below_alloc | apply pw_below_drewN | apply below_drew1 | refine below_set ?_ GE177.out | refine below_set ?_ GE178.out) | exact HB.out)⟩

end Go.Proofs.Ytfhjbhbmbnnimaa.PE
