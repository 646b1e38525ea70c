/- Plain Lean functions with the answers of the Go functions that these laws reach, and proofs that the calls come to them; written by this session's program. -/
import Derived.Test.YtebggajdojdebaaPSx0
namespace Go.Proofs.Ytebggajdojdebaa.PS
open Go.RowKit Go.Proofs.YtebggajdojdebaaW.PrintWords Go.Proofs.YtebggajdojdebaaW.PrintLast Go.Proofs.YtebggajdojdebaaW.PrintMore
attribute [local go_sem] max2_int min2_int max_two min_two max_three min_three max_four min_four   -- for this text's walks alone
set_option linter.unusedVariables false
set_option linter.unusedSimpArgs false

/-! ### span_Norm: function 15, by hand -/
section
open Go.RowKit Go.Shelf Go.Proofs.YtebggajdojdebaaW.PrintWords Go.Proofs.YtebggajdojdebaaW.PrintLast Go.Proofs.YtebggajdojdebaaW.PrintMore Go.Proofs.Ytebggajdojdebaa.Rng
/-- The rules: which numbers are in the set, by how many spans of each list have them. -/
def hasE (f o : Int) : Bool := if 0 < f then true else decide (0 < o)
def hasB (f o : Int) : Bool := if 0 < f then decide (0 < o) else false
def hasO (f o : Int) : Bool := if 0 < f then o == 0 else false

theorem hasE_calls (f o : Int) (w : World) : Calls Try.prog 38 #[.int .i64 f, .int .i64 o] w fun e w' => e = .returned (.bool (hasE f o)) ∧ w = w' := by
 by_cases h : 0 < f
 ·have h1 : decide (0 < f) = true := decide_eq_true h
  have e : hasE f o = true := by unfold hasE; rw [if_pos h]
  rw [e]
  go_enter Try.func38, Try.ntmps38
  go_wp2
  go_ret
  exact ⟨rfl, rfl⟩
 ·have h1 : decide (0 < f) = false := decide_eq_false h
  have e : hasE f o = decide (0 < o) := by unfold hasE; rw [if_neg h]
  rw [e]
  generalize hq : decide (0 < o) = q
  go_enter Try.func38, Try.ntmps38
  go_wp2
  go_ret
  exact ⟨rfl, rfl⟩
theorem hasB_calls (f o : Int) (w : World) : Calls Try.prog 42 #[.int .i64 f, .int .i64 o] w fun e w' => e = .returned (.bool (hasB f o)) ∧ w = w' := by
 by_cases h : 0 < f
 ·have h1 : decide (0 < f) = true := decide_eq_true h
  have e : hasB f o = decide (0 < o) := by unfold hasB; rw [if_pos h]
  rw [e]
  generalize hq : decide (0 < o) = q
  go_enter Try.func42, Try.ntmps42
  go_wp2
  go_ret
  exact ⟨rfl, rfl⟩
 ·have h1 : decide (0 < f) = false := decide_eq_false h
  have e : hasB f o = false := by unfold hasB; rw [if_neg h]
  rw [e]
  go_enter Try.func42, Try.ntmps42
  go_wp2
  go_ret
  exact ⟨rfl, rfl⟩
theorem hasO_calls (f o : Int) (w : World) : Calls Try.prog 43 #[.int .i64 f, .int .i64 o] w fun e w' => e = .returned (.bool (hasO f o)) ∧ w = w' := by
 by_cases h : 0 < f
 ·have h1 : decide (0 < f) = true := decide_eq_true h
  have e : hasO f o = (o == 0) := by unfold hasO; rw [if_pos h]
  rw [e]
  generalize hq : (o == 0) = q
  go_enter Try.func43, Try.ntmps43
  go_wp2
  go_ret
  exact ⟨rfl, rfl⟩
 ·have h1 : decide (0 < f) = false := decide_eq_false h
  have e : hasO f o = false := by unfold hasO; rw [if_neg h]
  rw [e]
  go_enter Try.func43, Try.ntmps43
  go_wp2
  go_ret
  exact ⟨rfl, rfl⟩

theorem either_calls (w : World) : Calls Try.prog 31 #[] w fun e w' => e = .returned (.agg #[.func (.func 38) #[] #[]]) ∧ Below w.heap.size w w' := by
 go_enter Try.func31, Try.ntmps31
 go_wp2
 exact bodyPost_ret (v := .agg #[.func (.func 38) #[] #[]]) (by simp [results, Try.results31, go_sem]) rfl ⟨rfl, below_alloc (Below.refl _ _) _⟩
theorem both_calls (w : World) : Calls Try.prog 34 #[] w fun e w' => e = .returned (.agg #[.func (.func 42) #[] #[]]) ∧ Below w.heap.size w w' := by
 go_enter Try.func34, Try.ntmps34
 go_wp2
 exact bodyPost_ret (v := .agg #[.func (.func 42) #[] #[]]) (by simp [results, Try.results34, go_sem]) rfl ⟨rfl, below_alloc (Below.refl _ _) _⟩
theorem only_calls (w : World) : Calls Try.prog 35 #[] w fun e w' => e = .returned (.agg #[.func (.func 43) #[] #[]]) ∧ Below w.heap.size w w' := by
 go_enter Try.func35, Try.ntmps35
 go_wp2
 exact bodyPost_ret (v := .agg #[.func (.func 43) #[] #[]]) (by simp [results, Try.results35, go_sem]) rfl ⟨rfl, below_alloc (Below.refl _ _) _⟩

/-- Whether a span has a number. -/
def spanHas (s : S24) (n : Int) : Bool := if s.f0 ≤ n then decide (n < s.f1) else false
set_option maxRecDepth 100000 in
theorem hasAt_calls (x y : Int) (gp : Nat) (a : Int) (q : Bool) (hq : spanHas ⟨x, y⟩ a = q) (w : World) (hp : w.cell? ⟨gp, 0, none⟩ = some (.int .i64 a)) :
  Calls Try.prog 37 #[.agg #[.int .i64 x, .int .i64 y], .pointer (some ⟨gp, 0, none⟩)] w fun e w' => e = .returned (.bool q) ∧ Below w.heap.size w w' := by
 have hu24 := Try.underlying24
 have hgi : gp < w.heap.size := World.block_lt_of_cell? w _ hp
 have hne : gp ≠ w.heap.size := by omega
 rw [← hq]
 clear hq
 unfold spanHas
 dsimp only
 by_cases h : x ≤ a
 ·rw [if_pos h]
  have h1 : decide (x ≤ a) = true := decide_eq_true h
  generalize hd : decide (a < y) = d
  go_enter Try.func37, Try.ntmps37
  go_wp2
  go_ret
  exact ⟨rfl, below_alloc (Below.refl _ _) _⟩
 ·rw [if_neg h]
  have h1 : decide (x ≤ a) = false := decide_eq_false h
  go_enter Try.func37, Try.ntmps37
  go_wp2
  go_ret
  exact ⟨rfl, below_alloc (Below.refl _ _) _⟩

theorem drop_stepS {α : Type} (l : List α) (z : α) (i : Int) (h0 : 0 ≤ i) (h1 : i < (l.length : Int)) : l.drop i.toNat = l.getD i.toNat z :: l.drop (i + 1).toNat := by
 have hl : i.toNat < l.length := by omega
 rw [List.drop_eq_getElem_cons hl, show (i + 1).toNat = i.toNat + 1 by omega, List.getD_eq_getElem?_getD, List.getElem?_eq_getElem hl]
 rfl

/-- Where the first span that has a is, or -1. -/
def spanAt : List S24 → Int → Int → Int
 | [], _, _ => -1
 | x :: l, a, i => if spanHas x a = true then i else spanAt l a (i + 1)

set_option maxHeartbeats 1000000 in
set_option maxRecDepth 100000 in
theorem spanIndex_calls (A0 : Option Addr) (c0 : Nat) (l0 : List S24) (gp : Nat) (a : Int) (w : World) (hr0 : Kd.C k24 w A0 l0.length l0) (hp : w.cell? ⟨gp, 0, none⟩ = some (.int .i64 a)) :
  Calls Try.prog 44 #[.slice A0 l0.length c0, .func (.func 37) #[] #[.pointer (some ⟨gp, 0, none⟩)]] w fun e w' => e = .returned (.int .i64 (spanAt l0 a 0)) ∧ Below w.heap.size w w' := by
 have hu24 := Try.underlying24
 have hgi : gp < w.heap.size := World.block_lt_of_cell? w _ hp
 have hmax : l0.length ≤ 9223372036854775807 := hr0.2.1
 have HR0 := Aside0.mk hr0
 have HX := Aside0.mk hp
 clear hr0 hp
 obtain ⟨r, hrr⟩ : ∃ r, r = spanAt l0 a 0 := ⟨_, rfl⟩
 rw [← hrr]
 have HRR := Aside0.mk hrr
 clear hrr
 go_enter Try.func44, Try.ntmps44
 go_wp2
 go_loopw [8] (fun i wr => ∃ (x : Int), i = .int .i64 x ∧ 0 ≤ x ∧ x ≤ (l0.length : Int) ∧ Aside0 (r = spanAt (l0.drop x.toNat) a x) ∧ Aside0 (Below w.heap.size w wr)) (fun i _ => l0.length - (intOf i).toNat)
 case atStart => exact ⟨0, rfl, by omega, by omega, ⟨by simpa using HRR.out⟩, ⟨Below.refl _ _⟩⟩
 case round =>
  obtain ⟨x, rfl, hx0, hx1, HA, HB⟩ := hrel
  clear HRR
  by_cases c4 : x < (l0.length : Int)
  ·have h1 := HA.out
   rw [drop_stepS l0 z24 x hx0 c4] at h1
   have H1 := Aside0.mk h1
   clear h1 HA
   obtain ⟨ad, e1, hx_0, hx_1⟩ := at_T24 HR0.out x hx0 c4
   cases e1
   replace hx_0 := (HB.out.cell (World.block_lt_of_cell? w _ hx_0)).trans hx_0
   replace hx_1 := (HB.out.cell (World.block_lt_of_cell? w _ hx_1)).trans hx_1
   have c4b := decide_eq_true c4
   have hx0b := eq_true hx0
   have c4c := eq_true c4
   cases hq : spanHas (rd_T24 l0 x) a with
   | true =>
    have Hq := Aside0.mk hq
    clear hq
    go_wp2_with (go_at_call 37; (refine (hasAt_calls _ _ gp a _ Hq.out _ ?sX).mono ?_); (case sX => exact (Below.cell HB.out hgi).trans HX.out); rintro e w1 ⟨rfl, hb1⟩)
    go_ret
    have h2 := H1.out
    unfold spanAt at h2
    rw [if_pos (show spanHas (l0.getD x.toNat z24) a = true from Hq.out)] at h2
    exact ⟨by rw [h2]; rfl, below_step HB.out hb1⟩
   | false =>
    have Hq := Aside0.mk hq
    clear hq
    go_wp2_with (go_at_call 37; (refine (hasAt_calls _ _ gp a _ Hq.out _ ?sX).mono ?_); (case sX => exact (Below.cell HB.out hgi).trans HX.out); rintro e w1 ⟨rfl, hb1⟩)
    go_roundw
    case rel =>
     have h2 := H1.out
     unfold spanAt at h2
     rw [if_neg (show ¬ spanHas (l0.getD x.toNat z24) a = true by rw [show spanHas (l0.getD x.toNat z24) a = false from Hq.out]; decide)] at h2
     exact ⟨x + 1, rfl, by omega, by omega, ⟨h2⟩, ⟨below_step HB.out hb1⟩⟩
    case measure => simp [intOf]; omega
  ·have hxe : x = (l0.length : Int) := by omega
   have h1 := HA.out
   rw [hxe, Int.toNat_natCast, List.drop_length] at h1
   have H1 := Aside0.mk h1
   clear h1 hxe HA
   have c4b := decide_eq_false c4
   go_wp2
   go_ret
   exact ⟨by rw [H1.out]; rfl, HB.out⟩

theorem spanAt_any : ∀ (l : List S24) (a i : Int), 0 ≤ i → decide (spanAt l a i ≥ 0) = l.any fun s => spanHas s a
 | [], a, i, h => by simp [spanAt]
 | x :: l, a, i, h => by
  unfold spanAt
  rw [List.any_cons]
  cases hx : spanHas x a with
  | true => rw [if_pos rfl, decide_eq_true (by omega), Bool.true_or]
  | false => rw [if_neg (by decide), Bool.false_or]; exact spanAt_any l a (i + 1) (by omega)

def span_Has.f (l0 : List S24) (a1 : Int) : Option Bool := some (l0.any fun s => spanHas s a1)

set_option maxHeartbeats 1000000 in
set_option maxRecDepth 100000 in
theorem span_Has.calls (A0 : Option Addr) (c0 : Nat) (l0 : List (S24)) (a1 : Int) (r : Bool) (w : World) (hr0 : Kd.C k24 w A0 l0.length l0) (hc0 : l0.length ≤ c0) (h : span_Has.f l0 a1 = some r) :
  Calls Try.prog 24 #[.slice A0 l0.length c0, .int .i64 a1] w fun e w' => e = .returned (.bool r) ∧ Below w.heap.size w w' := by
 have hr : r = decide (spanAt l0 a1 0 ≥ 0) := by rw [spanAt_any l0 a1 0 (by omega)]; exact (Option.some.inj h).symm
 rw [hr]
 clear hr h
 have HR0 := Aside0.mk (Kd.C_below hr0 (below_alloc (Below.refl w.heap.size w) (.cells #[.int .i64 a1] 3)))
 clear hr0
 have hbx := Boxed.new w 3 (.int .i64 a1)
 have HX := Aside0.mk hbx.cell
 clear hbx
 have hin : ∀ W (hr : Kd.C k24 W A0 l0.length l0) (hp : W.cell? ⟨w.heap.size, 0, none⟩ = some (.int .i64 a1)), Calls Try.prog 36 #[.slice A0 l0.length c0, .func (.func 37) #[] #[.pointer (some ⟨w.heap.size, 0, none⟩)]] W fun e w' => e = .returned (.bool (decide (spanAt l0 a1 0 ≥ 0))) ∧ Below W.heap.size W w' := by
  intro W hr hp
  have H1 := Aside0.mk hr
  have H2 := Aside0.mk hp
  clear hr hp HR0 HX
  have hin := fun W => spanIndex_calls A0 c0 l0 w.heap.size a1 W
  generalize spanAt l0 a1 0 = q at hin ⊢
  have HI := Aside0.mk hin
  clear hin
  go_enter Try.func36, Try.ntmps36
  go_wp2_with (go_at_call 44; (refine (HI.out _ H1.out H2.out).mono ?_); rintro e w1 ⟨rfl, hb1⟩)
  go_ret
  exact ⟨rfl, hb1⟩
 generalize decide (spanAt l0 a1 0 ≥ 0) = q at hin ⊢
 have HI := Aside0.mk hin
 clear hin
 go_enter Try.func24, Try.ntmps24
 go_wp2_with (go_at_call 36; (refine (HI.out _ HR0.out HX.out).mono ?_); rintro e w1 ⟨rfl, hb1⟩)
 go_ret
 exact ⟨rfl, below_step (below_alloc (Below.refl _ _) _) hb1⟩

/-! ### the order of the bounds -/
def cmpI (x y : Int) : Int := if x < y then -1 else if y < x then 1 else 0
theorem nan_calls (x : Int) (w : World) : Calls Try.prog 50 #[.int .i64 x] w fun e w' => e = .returned (.bool false) ∧ w = w' := by
 have h : (x != x) = false := by simp
 go_enter Try.func50, Try.ntmps50
 go_wp2
 go_ret
 exact ⟨rfl, rfl⟩
theorem cmp_calls (x y : Int) (w : World) : Calls Try.prog 47 #[.int .i64 x, .int .i64 y] w fun e w' => e = .returned (.int .i64 (cmpI x y)) ∧ w = w' := by
 unfold cmpI
 by_cases h : x < y
 ·rw [if_pos h]
  have h1 : decide (x < y) = true := decide_eq_true h
  go_enter Try.func47, Try.ntmps47
  go_wp2_with (go_at_call 50; refine (nan_calls _ _).mono ?_; rintro e w' ⟨rfl, rfl⟩)
  go_ret
  exact ⟨rfl, rfl⟩
 ·rw [if_neg h]
  have h1 : decide (x < y) = false := decide_eq_false h
  by_cases h' : y < x
  ·rw [if_pos h']
   have h2 : decide (y < x) = true := decide_eq_true h'
   go_enter Try.func47, Try.ntmps47
   go_wp2_with (go_at_call 50; refine (nan_calls _ _).mono ?_; rintro e w' ⟨rfl, rfl⟩)
   go_ret
   exact ⟨rfl, rfl⟩
  ·rw [if_neg h']
   have h2 : decide (y < x) = false := decide_eq_false h'
   go_enter Try.func47, Try.ntmps47
   go_wp2_with (go_at_call 50; refine (nan_calls _ _).mono ?_; rintro e w' ⟨rfl, rfl⟩)
   go_ret
   exact ⟨rfl, rfl⟩

open Go.Sort in
set_option maxHeartbeats 1000000 in
theorem cmpE_calls (x y : S56) (W : World) : Calls Try.prog 46 #[.agg #[.int .i64 x.f0, .int .i64 x.f1, .int .i64 x.f2], .agg #[.int .i64 y.f0, .int .i64 y.f1, .int .i64 y.f2]] W fun e w' => e = .returned (.int .i64 (cmpI x.f0 y.f0)) ∧ ∃ q os', w' = grow (W.drewN q) os' := by
 have hu := Try.underlying56
 have hcon := fun W' => cmp_calls x.f0 y.f0 W'
 generalize cmpI x.f0 y.f0 = r at hcon ⊢
 have HC := Aside0.mk hcon
 clear hcon
 go_enter Try.func46, Try.ntmps46
 go_wp2_with (go_at_call 47; refine (HC.out _).mono ?_; rintro e w' ⟨rfl, rfl⟩)
 go_ret
 exact ⟨rfl, 0, _, by rw [alloc_eq_grow, alloc_eq_grow, grow_grow]; rfl⟩

def cellsE (l : List S56) : List Value := l.flatMap fun p => [.int .i64 p.f0, .int .i64 p.f1, .int .i64 p.f2]
theorem cellsE_append (a b : List S56) : cellsE (a ++ b) = cellsE a ++ cellsE b := by simp [cellsE]
theorem cellsE_len (l : List S56) : (cellsE l).length = l.length * 3 := by
 induction l with
 | nil => rfl
 | cons p l ih => rw [show cellsE (p :: l) = [.int .i64 p.f0, .int .i64 p.f1, .int .i64 p.f2] ++ cellsE l from rfl, List.length_append, ih]; simp; omega
/-- The bounds of a list's spans; x, y: what a span adds. -/
def edA (x y : Int) (l : List S24) : List S56 := l.flatMap fun s => if s.f0 < s.f1 then [⟨s.f0, x, y⟩, ⟨s.f1, -x, -y⟩] else []
theorem edA_len (x y : Int) : ∀ l : List S24, (edA x y l).length ≤ 2 * l.length
 | [] => by simp [edA]
 | s :: l => by
  have := edA_len x y l
  rw [show edA x y (s :: l) = (if s.f0 < s.f1 then [⟨s.f0, x, y⟩, ⟨s.f1, -x, -y⟩] else []) ++ edA x y l from rfl, List.length_append, List.length_cons]
  split <;> simp <;> omega
theorem edA_snoc (x y : Int) (l : List S24) (i : Int) (h0 : 0 ≤ i) (h1 : i < (l.length : Int)) : edA x y (l.take (i + 1).toNat) = edA x y (l.take i.toNat) ++ if (rd_T24 l i).f0 < (rd_T24 l i).f1 then [⟨(rd_T24 l i).f0, x, y⟩, ⟨(rd_T24 l i).f1, -x, -y⟩] else [] := by
 have hl : i.toNat < l.length := by omega
 rw [show (i + 1).toNat = i.toNat + 1 by omega, List.take_succ_eq_append_getElem hl]
 simp only [edA, List.flatMap_append, List.flatMap_cons, List.flatMap_nil, List.append_nil]
 rw [show rd_T24 l i = l[i.toNat] by unfold rd_T24; rw [List.getD_eq_getElem?_getD, List.getElem?_eq_getElem hl]; rfl]
theorem info56 : (Try.prog.info? 56).map (fun i => (i.zero, i.size, i.bytes)) = some (some (.agg #[(.int .i64 0), (.int .i64 0), (.int .i64 0)]), 3, 24) := by kernel_rfl

/-- One loop of edges: what the spans of a list add to the bounds. -/
def EdRel (w : World) (l : List S24) (pre : List S56) (x y : Int) (v i : Value) (wr : World) : Prop :=
 ∃ (k : Int), i = .int .i64 k ∧ 0 ≤ k ∧ k ≤ (l.length : Int) ∧ Aside0 (wr.ownsRow w.heap.size 56 3 v (pre ++ edA x y (l.take k.toNat)).length (cellsE (pre ++ edA x y (l.take k.toNat)))) ∧ Aside0 (Below w.heap.size w wr)

theorem EdRel.keep {w wr w1 : World} {l : List S24} {pre acc : List S56} {x y k : Int} {v : Value} (ha : Aside0 (pre ++ edA x y (l.take k.toNat) = acc)) (h0 : 0 ≤ k) (h1 : k < (l.length : Int)) (hn : ¬ (rd_T24 l k).f0 < (rd_T24 l k).f1)
  (ho : wr.ownsRow w.heap.size 56 3 v acc.length (cellsE acc)) (hb : Below w.heap.size w w1) (hw : Below wr.heap.size wr w1) : EdRel w l pre x y v (.int .i64 (k + 1)) w1 := by
 obtain ⟨rfl⟩ := ha
 refine ⟨k + 1, rfl, by omega, by omega, ⟨?_⟩, ⟨hb⟩⟩
 rw [edA_snoc x y l k h0 h1, if_neg hn, List.append_nil]
 exact pw_own_below ho hw

theorem EdRel.more {w w1 : World} {l : List S24} {pre acc : List S56} {x y k : Int} {v : Value} (ha : Aside0 (pre ++ edA x y (l.take k.toNat) = acc)) (h0 : 0 ≤ k) (h1 : k < (l.length : Int)) (hn : (rd_T24 l k).f0 < (rd_T24 l k).f1)
  (ho : w1.ownsRow w.heap.size 56 3 v (acc.length + 2) (cellsE acc ++ [.int .i64 (rd_T24 l k).f0, .int .i64 x, .int .i64 y, .int .i64 (rd_T24 l k).f1, .int .i64 (-x), .int .i64 (-y)])) (hb : Below w.heap.size w w1) : EdRel w l pre x y v (.int .i64 (k + 1)) w1 := by
 obtain ⟨rfl⟩ := ha
 refine ⟨k + 1, rfl, by omega, by omega, ⟨?_⟩, ⟨hb⟩⟩
 rw [edA_snoc x y l k h0 h1, if_pos hn, ← List.append_assoc, cellsE_append, List.length_append]
 exact ho

theorem six_at {w : World} {g t : Nat} {a b c d e f : Value} (h : w.heap[g]? = some (.cells #[a, b, c, d, e, f] t (0, 0))) (j : Nat) (u : Value) (hj : ([a, b, c, d, e, f] : List Value)[j]? = some u) : w.cell? (Addr.add ⟨g, 0, none⟩ j) = some u := by
 have e : ∀ n : Nat, n < 6 → w.cell? (Addr.add ⟨g, 0, none⟩ n) = ([a, b, c, d, e, f] : List Value)[n]? := by
  intro n hn
  have e2 : Addr.add ⟨g, 0, none⟩ n = ⟨g, n, none⟩ := by
   rcases n with _ | n
   ·rfl
   ·simp [Addr.add]
  rw [e2]
  simp only [World.cell?, h]
  rcases n with _ | _ | _ | _ | _ | _ | n
  ·rfl
  ·rfl
  ·rfl
  ·rfl
  ·rfl
  ·rfl
  ·omega
 have hl : j < 6 := (List.getElem?_eq_some_iff.1 hj).1
 rw [e j hl]; exact hj


instance : Inhabited S56 := ⟨z56⟩
def encE (p : S56) : List Value := [.int .i64 p.f0, .int .i64 p.f1, .int .i64 p.f2]
theorem cellsE_get : ∀ (l : List S56) (j : Nat), j < l.length * 3 → (cellsE l)[j]? = some ((encE l.toArray[j / 3]!)[j % 3]!)
 | [], j, h => by simp at h
 | p :: l, j, h => by
  have e : cellsE (p :: l) = encE p ++ cellsE l := rfl
  by_cases h3 : j < 3
  ·rw [e, List.getElem?_append_left (by simpa [encE] using h3), Nat.div_eq_of_lt h3, Nat.mod_eq_of_lt h3]
   simp only [List.getElem!_toArray, List.getElem!_cons_zero]
   have hl : j < (encE p).length := by simpa [encE] using h3
   rw [List.getElem?_eq_getElem hl, getElem!_pos (encE p) j hl]
  ·rw [e, List.getElem?_append_right (by simp [encE]; omega), cellsE_get l (j - (encE p).length) (by simp only [encE, List.length_cons, List.length_nil] at *; omega)]
   simp only [show (encE p).length = 3 from rfl, List.getElem!_toArray]
   obtain ⟨m, rfl⟩ : ∃ m, j = m + 3 := ⟨j - 3, by omega⟩
   rw [show m + 3 - 3 = m by omega, show (m + 3) / 3 = m / 3 + 1 by omega, show (m + 3) % 3 = m % 3 by omega, List.getElem!_cons_succ]

theorem cmpI_lt (a b : Int) : decide (cmpI a b < 0) = decide (a < b) := by
 unfold cmpI
 by_cases h : a < b
 ·rw [if_pos h]; simp [h]
 ·rw [if_neg h]
  by_cases h' : b < a
  ·rw [if_pos h']; simp [h]
  ·rw [if_neg h']; simp [h]

theorem swoE : Go.Sort.SWO (ltOf fun x y : S56 => cmpI x.f0 y.f0) where
 irrefl x := by show decide _ = _; rw [cmpI_lt]; simp
 trans x y z h1 h2 := by
  change decide _ = _ at h1 h2
  show decide _ = _
  rw [cmpI_lt] at *
  simp at *; omega
 ntrans x y z h1 h2 := by
  change decide _ = _ at h1 h2
  show decide _ = _
  rw [cmpI_lt] at *
  simp at *; omega

theorem sortE_calls (base : Nat) (v : Value) (l : List S56) (w : World) (ho : w.ownsRow base 56 3 v l.length (cellsE l)) (hl : l.length ≤ 1099511627776) :
  Calls Try.prog 45 #[v, .func (.func 46) #[] #[]] w fun e w' => e = .returned (.tuple #[]) ∧ ∃ l' : List S56, l'.Perm l ∧ l'.Pairwise (fun a b => a.f0 ≤ b.f0) ∧ w'.ownsRow base 56 3 v l'.length (cellsE l') ∧ w.grownBy w' v.ownBlock := by
 rcases ho.2 with ⟨rfl, hn⟩ | ⟨g, cap, cur, rfl, hb, hg, hnc, hcm, hcs, htake⟩
 ·have hl0 : l = [] := List.length_eq_zero_iff.1 hn
  subst hl0
  refine (AnyF.slices_SortFunc_none Try.sortE none 0 (.func (.func 46) #[] #[]) w).mono ?_
  rintro e w' ⟨rfl, rfl⟩
  exact ⟨rfl, [], List.Perm.refl _, List.Pairwise.nil, ho, ⟨rfl, rfl, rfl, Nat.le_refl _, fun _ _ _ => rfl⟩⟩
 ·have eg : ∀ args w, (callFunc 46 args).run Try.prog w = .ok (.enter 46 args) w := enters_of Try.func46 (by kernel_rfl) rfl
  have hsz : l.toArray.size = l.length := by simp
  have hH : Go.Sort.HoldsK encE 3 w g 0 l.toArray := by
   intro j hj
   rw [Go.Sort.size_flatK, hsz] at hj
   rw [Go.Sort.get_flatK _ _ _ _ (by rw [hsz]; exact hj), Nat.zero_add]
   refine ⟨?_, ho.frozenAt j⟩
   rw [ho.cellAt j hj, cellsE_get l j hj]; rfl
  have hcmp : CmpLays Try.prog 46 #[] encE 3 (fun x y : S56 => cmpI x.f0 y.f0) g 0 l.toArray.size w := fun _ _ _ _ x y => cmpE_calls x y _
  have hcon := AnyQ.slices_SortFunc Try.sortE 3 Try.isAgg56 Try.sizeOf56 encE (fun _ => rfl) (fun x v hv => by simp only [encE, List.mem_cons, List.not_mem_nil, or_false] at hv; rcases hv with rfl | rfl | rfl <;> rfl) (fun x y : S56 => cmpI x.f0 y.f0) swoE 46 #[] g 0 cap l.toArray w eg hcmp hH (Array.getElem?_eq_some_iff.1 hg).1 (by rw [hsz]; omega)
  rw [hsz] at hcon
  refine hcon.mono ?_
  rintro e w' ⟨rfl, d', n, os, hp, hs, rfl⟩
  obtain ⟨hp1, _, hp2⟩ := hp
  rw [hsz] at hp1
  have hx : ∀ d : Array S56, d.size = l.length → (d.extract 0 l.length).toList = d.toList := fun d hd => by rw [← hd]; simp
  rw [hx _ hp1, hx _ hsz] at hp2
  refine ⟨rfl, d'.toList, hp2, ?_, ?_, ?_⟩
  ·rw [List.pairwise_iff_getElem]
   intro i j hi hj hij
   have h1 := hs i j (Nat.zero_le _) hij (by rw [← hp1]; simpa using hj)
   change decide _ = _ at h1
   rw [cmpI_lt] at h1
   have hi' : i < d'.size := by simpa using hi
   have hj' : j < d'.size := by simpa using hj
   rw [getElem!_pos d' i hi', getElem!_pos d' j hj'] at h1
   simp only [decide_eq_false_iff_not, Int.not_lt] at h1
   simpa using h1
  ·have hl' : d'.toList.length = l.length := by simpa using hp1
   have hgl := (Array.getElem?_eq_some_iff.1 hg).1
   rw [hl']
   refine ⟨by rw [cellsE_len, hl'], .inr ⟨g, cap, Go.Sort.putCells id 0 (Go.Sort.flatK encE 3 d') cur, rfl, hb, ?_, hnc, hcm, ?_, ?_⟩⟩
   ·show (w.heap.modify g (Go.Sort.onCells (Go.Sort.putCells id 0 (Go.Sort.flatK encE 3 d'))) ++ os)[g]? = _
    rw [Array.getElem?_append_left (by rw [Array.size_modify]; exact hgl), Array.getElem?_modify, if_pos rfl, hg]
    rfl
   ·unfold Go.Sort.putCells; rw [Array.size_mapIdx]; exact hcs
   ·have hcur : cur.size = cap * 3 := hcs
    refine List.ext_getElem? fun j => ?_
    rw [List.getElem?_take]
    by_cases hj : j < l.length * 3
    ·rw [if_pos hj, cellsE_get _ j (by rw [hl']; exact hj)]
     have hj2 : j < cur.size := by rw [hcur]; have := Nat.mul_le_mul_right 3 hnc; omega
     rw [Array.getElem?_toList]
     unfold Go.Sort.putCells
     rw [Array.getElem?_mapIdx, Array.getElem?_eq_getElem hj2, Option.map_some, if_pos ⟨Nat.zero_le _, by rw [Go.Sort.size_flatK, hp1]; omega⟩, Nat.sub_zero, Go.Sort.get_flatK _ _ _ _ (by rw [hp1]; exact hj)]
     simp
    ·rw [if_neg hj, List.getElem?_eq_none (by rw [cellsE_len, hl']; omega)]
  ·refine ⟨rfl, rfl, rfl, ?_, fun k hk hne => ?_⟩
   ·show w.heap.size ≤ (w.heap.modify g _ ++ os).size
    rw [Array.size_append, Array.size_modify]; omega
   ·show (w.heap.modify g _ ++ os)[k]? = _
    rw [Array.getElem?_append_left (by rw [Array.size_modify]; exact hk), Array.getElem?_modify, if_neg (fun e => hne (by rw [e]; rfl))]

set_option maxHeartbeats 4000000 in
set_option maxRecDepth 100000 in
theorem edges_calls (A0 : Option Addr) (c0 : Nat) (l0 : List S24) (A1 : Option Addr) (c1 : Nat) (l1 : List S24) (w : World) (hr0 : Kd.C k24 w A0 l0.length l0) (hr1 : Kd.C k24 w A1 l1.length l1) (h0 : l0.length ≤ 1073741824) (h1 : l1.length ≤ 1073741824) :
  Calls Try.prog 40 #[.slice A0 l0.length c0, .slice A1 l1.length c1] w fun e w' => ∃ v l, e = .returned v ∧ l.Perm (edA 1 0 l0 ++ edA 0 1 l1) ∧ l.Pairwise (fun a b => a.f0 ≤ b.f0) ∧ w'.ownsRow w.heap.size 56 3 v l.length (cellsE l) ∧ Below w.heap.size w w' := by
 have hu24 := Try.underlying24
 obtain ⟨i0, hi, hz0, hz1, hz2⟩ := info_parts info56
 have HR0 := Aside0.mk hr0
 have HR1 := Aside0.mk hr1
 clear hr0 hr1
 obtain ⟨P0, hP0⟩ : ∃ P0 : List S56, P0 = [] := ⟨_, rfl⟩
 have hpl : P0.length ≤ 0 := by rw [hP0]; exact Nat.le_refl _
 have HP0 := Aside0.mk hP0
 clear hP0
 go_enter Try.func40, Try.ntmps40
 go_wp2
 go_loopw [12, 5] (fun i v wr => EdRel w l0 P0 1 0 v i wr) (fun i _ _ => l0.length - (intOf i).toNat)
 case atStart => exact ⟨0, rfl, by omega, by omega, ⟨by rw [HP0.out]; simp only [Int.toNat_zero, List.take_zero]; exact own_nil _ _ _ _⟩, ⟨Below.refl _ _⟩⟩
 case round =>
  obtain ⟨k, rfl, hk0, hk1, HO, HB⟩ := hrel
  by_cases c4 : k < (l0.length : Int)
  ·obtain ⟨ad, e1, hx_0, hx_1⟩ := at_T24 HR0.out k hk0 c4
   cases e1
   replace hx_0 := (HB.out.cell (World.block_lt_of_cell? w _ hx_0)).trans hx_0
   replace hx_1 := (HB.out.cell (World.block_lt_of_cell? w _ hx_1)).trans hx_1
   have c4b := decide_eq_true c4
   have hx0b := eq_true hk0
   have c4c := eq_true c4
   have hbl : (P0 ++ edA 1 0 (l0.take k.toNat)).length ≤ 4294967296 := by
    have h3 := edA_len 1 0 (l0.take k.toNat)
    have h4 : (l0.take k.toNat).length ≤ 1073741824 := by rw [List.length_take]; omega
    rw [List.length_append]; omega
   generalize hacc : P0 ++ edA 1 0 (l0.take k.toNat) = acc at HO hbl
   have HA := Aside0.mk hacc
   clear hacc
   by_cases hs : (rd_T24 l0 k).f0 < (rd_T24 l0 k).f1
   ·have hsb := decide_eq_true hs
    go_wp2_with (at_builtin; refine wpList_append_own _ rfl _ _ 53 rfl w.heap.size 56 i0 (.agg #[(.int .i64 0), (.int .i64 0), (.int .i64 0)]) 3 24 Try.underlying53 hi hz0 hz1 hz2 rfl (by decide) _ _ _ rfl (pw_own_below HO.out (below_alloc (below_alloc (Below.refl _ _) _) _)) ⟨wr.heap.size + 1, 0, none⟩ 2 2 [.int .i64 (rd_T24 l0 k).f0, .int .i64 1, .int .i64 0, .int .i64 (rd_T24 l0 k).f1, .int .i64 (-1), .int .i64 0] rfl rfl ?c1l0 ?c2l0 ?c3l0 ?c4l0 ?c5l0 ?_; (case c1l0 => exact six_at (by have h9 := World.alloc_heap_new (wr.alloc (.cells #[.int .i64 (rd_T24 l0 k).f0, .int .i64 (rd_T24 l0 k).f1] 24)) (.cells #[.int .i64 (rd_T24 l0 k).f0, .int .i64 1, .int .i64 0, .int .i64 (rd_T24 l0 k).f1, .int .i64 (-1), .int .i64 0] 56); rwa [World.size_alloc] at h9)); (case c2l0 => intro u hu; simp only [List.mem_cons, List.not_mem_nil, or_false] at hu; rcases hu with rfl | rfl | rfl | rfl | rfl | rfl <;> rfl); (case c3l0 => unfold maxLen; omega); (case c4l0 => omega); (case c5l0 => have h9 := HB.out.size; simp; omega); intro v' w1 ho1 hg1 _; have HO1 := Aside0.mk ho1; have HB1 := Aside0.mk (Below.grown (below_alloc (below_alloc HB.out _) _) hg1 (by have h9 := HB.out.size; simp; omega) (fun j hj => own_base HO.out j hj)); clear ho1 hg1)
    go_roundw
    case rel => exact EdRel.more HA hk0 c4 hs HO1.out HB1.out
    case measure => simp [intOf]; omega
   ·have hsb := decide_eq_false hs
    go_wp2
    go_roundw
    case rel => exact EdRel.keep HA hk0 c4 hs HO.out (below_alloc HB.out _) (below_alloc (Below.refl _ _) _)
    case measure => simp [intOf]; omega
  ·have hke : k = (l0.length : Int) := by omega
   rw [hke, Int.toNat_natCast, List.take_length] at HO
   clear hke
   have c4b := decide_eq_false c4
   obtain ⟨P1, hP1⟩ : ∃ P1 : List S56, P1 = P0 ++ edA 1 0 l0 := ⟨_, rfl⟩
   have hpl1 : P1.length ≤ 2147483648 := by have h3 := edA_len 1 0 l0; rw [hP1, List.length_append]; omega
   rw [← hP1] at HO
   have HP1 := Aside0.mk hP1
   clear hP1
   go_wp2
   obtain ⟨wo, rfl⟩ : ∃ wo : World, wo = wr := ⟨_, rfl⟩
   go_loopw [33, 5] (fun i v wr => EdRel w l1 P1 0 1 v i wr) (fun i _ _ => l1.length - (intOf i).toNat)
   case atStart => exact ⟨0, rfl, by omega, by omega, ⟨by simp only [Int.toNat_zero, List.take_zero, edA, List.flatMap_nil, List.append_nil]; exact HO.out⟩, HB⟩
   case round =>
    clear HO HB hk0 hk1 c4b c4
    obtain ⟨k, rfl, hk0, hk1, HO, HB⟩ := hrel
    by_cases c4 : k < (l1.length : Int)
    ·obtain ⟨ad, e1, hx_0, hx_1⟩ := at_T24 HR1.out k hk0 c4
     cases e1
     replace hx_0 := (HB.out.cell (World.block_lt_of_cell? w _ hx_0)).trans hx_0
     replace hx_1 := (HB.out.cell (World.block_lt_of_cell? w _ hx_1)).trans hx_1
     have c4b := decide_eq_true c4
     have hx0b := eq_true hk0
     have c4c := eq_true c4
     have hbl : (P1 ++ edA 0 1 (l1.take k.toNat)).length ≤ 4294967296 := by
      have h3 := edA_len 0 1 (l1.take k.toNat)
      have h4 : (l1.take k.toNat).length ≤ 1073741824 := by rw [List.length_take]; omega
      rw [List.length_append]; omega
     generalize hacc : P1 ++ edA 0 1 (l1.take k.toNat) = acc at HO hbl
     have HA := Aside0.mk hacc
     clear hacc
     by_cases hs : (rd_T24 l1 k).f0 < (rd_T24 l1 k).f1
     ·have hsb := decide_eq_true hs
      go_wp2_with (at_builtin; refine wpList_append_own _ rfl _ _ 53 rfl w.heap.size 56 i0 (.agg #[(.int .i64 0), (.int .i64 0), (.int .i64 0)]) 3 24 Try.underlying53 hi hz0 hz1 hz2 rfl (by decide) _ _ _ rfl (pw_own_below HO.out (below_alloc (below_alloc (Below.refl _ _) _) _)) ⟨wr.heap.size + 1, 0, none⟩ 2 2 [.int .i64 (rd_T24 l1 k).f0, .int .i64 0, .int .i64 1, .int .i64 (rd_T24 l1 k).f1, .int .i64 0, .int .i64 (-1)] rfl rfl ?c1l1 ?c2l1 ?c3l1 ?c4l1 ?c5l1 ?_; (case c1l1 => exact six_at (by have h9 := World.alloc_heap_new (wr.alloc (.cells #[.int .i64 (rd_T24 l1 k).f0, .int .i64 (rd_T24 l1 k).f1] 24)) (.cells #[.int .i64 (rd_T24 l1 k).f0, .int .i64 0, .int .i64 1, .int .i64 (rd_T24 l1 k).f1, .int .i64 0, .int .i64 (-1)] 56); rwa [World.size_alloc] at h9)); (case c2l1 => intro u hu; simp only [List.mem_cons, List.not_mem_nil, or_false] at hu; rcases hu with rfl | rfl | rfl | rfl | rfl | rfl <;> rfl); (case c3l1 => unfold maxLen; omega); (case c4l1 => omega); (case c5l1 => have h9 := HB.out.size; simp; omega); intro v' w1 ho1 hg1 _; have HO1 := Aside0.mk ho1; have HB1 := Aside0.mk (Below.grown (below_alloc (below_alloc HB.out _) _) hg1 (by have h9 := HB.out.size; simp; omega) (fun j hj => own_base HO.out j hj)); clear ho1 hg1)
      go_roundw
      case rel => exact EdRel.more HA hk0 c4 hs HO1.out HB1.out
      case measure => simp [intOf]; omega
     ·have hsb := decide_eq_false hs
      go_wp2
      go_roundw
      case rel => exact EdRel.keep HA hk0 c4 hs HO.out (below_alloc HB.out _) (below_alloc (Below.refl _ _) _)
      case measure => simp [intOf]; omega
    ·have hke : k = (l1.length : Int) := by omega
     rw [hke, Int.toNat_natCast, List.take_length] at HO
     clear hke
     have c4b := decide_eq_false c4
     have hlen : (P1 ++ edA 0 1 l1).length ≤ 1099511627776 := by have h3 := edA_len 0 1 l1; rw [List.length_append]; omega
     have HS := Aside0.mk (sortE_calls w.heap.size _ _ _ HO.out hlen)
     go_wp2_with (go_at_call 45; refine HS.out.mono ?_; rintro e w1 ⟨rfl, l', hp', hs', ho', hg'⟩)
     go_ret
     refine ⟨_, l', rfl, ?_, hs', ho', Below.grown HB.out hg' HB.out.size (fun j hj => own_base HO.out j hj)⟩
     have e1 := HP1.out
     rw [HP0.out, List.nil_append] at e1
     rw [← e1]
     exact hp'

/-! ### the sweep -/
def cellsS (l : List S24) : List Value := l.flatMap fun p => [.int .i64 p.f0, .int .i64 p.f1]
theorem cellsS_append (a b : List S24) : cellsS (a ++ b) = cellsS a ++ cellsS b := by simp [cellsS]
theorem cellsS_len (l : List S24) : (cellsS l).length = l.length * 2 := by
 induction l with
 | nil => rfl
 | cons p l ih => rw [show cellsS (p :: l) = [.int .i64 p.f0, .int .i64 p.f1] ++ cellsS l from rfl, List.length_append, ih]; simp; omega
theorem info24o : (Try.prog.info? 24).map (fun i => (i.zero, i.size, i.bytes)) = some (some (.agg #[(.int .i64 0), (.int .i64 0)]), 2, 16) := info24
theorem two_at {w : World} {g t : Nat} {a b : Value} (h : w.heap[g]? = some (.cells #[a, b] t (0, 0))) (j : Nat) (u : Value) (hj : ([a, b] : List Value)[j]? = some u) : w.cell? (Addr.add ⟨g, 0, none⟩ j) = some u := by
 have e : ∀ n : Nat, n < 2 → w.cell? (Addr.add ⟨g, 0, none⟩ n) = ([a, b] : List Value)[n]? := by
  intro n hn
  have e2 : Addr.add ⟨g, 0, none⟩ n = ⟨g, n, none⟩ := by
   rcases n with _ | n
   ·rfl
   ·simp [Addr.add]
  rw [e2]
  simp only [World.cell?, h]
  rcases n with _ | _ | n
  ·rfl
  ·rfl
  ·omega
 have hl : j < 2 := (List.getElem?_eq_some_iff.1 hj).1
 rw [e j hl]; exact hj

/-- Where a sweep stands: the boxes of the rule, the two counts, open and out, and out's row. -/
structure SwAt (base gr gf go gp gt K : Nat) (f o : Int) (op : Bool) (v : Value) (out : List S24) (W : World) : Prop where
 rule : Boxed W gr 45 (.func (.func K) #[] #[])
 fst : Boxed W gf 3 (.int .i64 f)
 oth : Boxed W go 3 (.int .i64 o)
 opn : Boxed W gp 4 (.bool op)
 box : Boxed W gt 22 v
 row : W.ownsRow base 24 2 v out.length (cellsS out)
 np : gp ≠ gt ∧ gp ≠ gr ∧ gp ≠ gf ∧ gp ≠ go
 nt : gt ≠ gr ∧ gt ≠ gf ∧ gt ≠ go
 nf : gf ≠ go ∧ gf ≠ gr ∧ go ≠ gr
 le : base ≤ gp ∧ base ≤ gt ∧ base ≤ gf ∧ base ≤ go

/-- What the sweep's output is, behind a bound. -/
def turnF (h op : Bool) (out : List S24) (at_ : Int) : List S24 :=
 if h = op then out else if op = true then out.dropLast ++ [⟨(out.getLastD z24).f0, at_⟩] else out ++ [⟨at_, 0⟩]

theorem own_slice {w : World} {base n size : Nat} {e : TypeId} {v : Value} {xs : List Value} (h : w.ownsRow base e size v n xs) (hn : n ≠ 0) : ∃ g c, v = .slice (some ⟨g, 0, none⟩) n c := by
 rcases h.2 with ⟨_, h⟩ | ⟨g, cap, _, h, _⟩
 ·exact absurd h hn
 ·exact ⟨g, cap, h⟩
theorem SwAt.drew {base gr gf go gp gt K : Nat} {f o : Int} {op : Bool} {v : Value} {out : List S24} {W : World} (h : SwAt base gr gf go gp gt K f o op v out W) (n : Nat) : SwAt base gr gf go gp gt K f o op v out (W.drewN n) :=
 ⟨h.rule, h.fst, h.oth, h.opn, h.box, h.row, h.np, h.nt, h.nf, h.le⟩

/-- Behind an append to out: the boxes, and the whole behind the two stores. -/
theorem SwAt.more {base gr gf go gp gt K : Nat} {f o : Int} {op h : Bool} {v v1 : Value} {out out1 : List S24} {W w1 : World} {tmp : Obj} (hs : SwAt base gr gf go gp gt K f o op v out W) (hg : (W.alloc tmp).grownBy w1 v.ownBlock) (ho : w1.ownsRow base 24 2 v1 out1.length (cellsS out1)) :
  Boxed w1 gt 22 v ∧ Boxed (w1.setCell ⟨gt, 0, none⟩ v1) gp 4 (.bool op) ∧ SwAt base gr gf go gp gt K f o h v1 out1 ((w1.setCell ⟨gt, 0, none⟩ v1).setCell ⟨gp, 0, none⟩ (.bool h)) ∧ Turns (fun k => k = gp ∨ k = gt ∨ v.ownBlock = some k) W ((w1.setCell ⟨gt, 0, none⟩ v1).setCell ⟨gp, 0, none⟩ (.bool h)) := by
 have k1 := (hs.rule.alloc tmp).kept hg (hs.rule.not_row (by decide) hs.row)
 have k2 := (hs.fst.alloc tmp).kept hg (hs.fst.not_row (by decide) hs.row)
 have k3 := (hs.oth.alloc tmp).kept hg (hs.oth.not_row (by decide) hs.row)
 have k4 := (hs.opn.alloc tmp).kept hg (hs.opn.not_row (by decide) hs.row)
 have k5 := (hs.box.alloc tmp).kept hg (hs.box.not_row (by decide) hs.row)
 obtain ⟨p1, p2, p3, p4⟩ := hs.np
 obtain ⟨t1, t2, t3⟩ := hs.nt
 refine ⟨k5, k4.other p1 v1, ⟨(k1.other (Ne.symm t1) v1).other (Ne.symm p2) _, (k2.other (Ne.symm t2) v1).other (Ne.symm p3) _, (k3.other (Ne.symm t3) v1).other (Ne.symm p4) _, (k4.other p1 v1).set _, (k5.set v1).other (Ne.symm p1) _, ?_, hs.np, hs.nt, hs.nf, hs.le⟩, ?_⟩
 ·have r1 := ho.kept (grownBy_setCell' w1 gt v1) (.inr (k5.not_row (by decide) ho).symm)
  exact r1.kept (grownBy_setCell' _ gp _) (.inr ((k4.other p1 v1).not_row (by decide) r1).symm)
 ·refine (Turns.alloc _ W tmp).trans ((Turns.grown hg (fun k hk => .inr (.inr hk))).trans ((Turns.setCell (p := ⟨gt, 0, none⟩) (.inr (.inl rfl)) _ _).trans (Turns.setCell (p := ⟨gp, 0, none⟩) (.inl rfl) _ _)))

/-- Behind a store into the last span. -/
theorem SwAt.close {base gr gf go gp gt K g cap : Nat} {f o a : Int} {op h : Bool} {l : List S24} {x : S24} {W : World} (hs : SwAt base gr gf go gp gt K f o op (.slice (some ⟨g, 0, none⟩) (l.length + 1) cap) (l ++ [x]) W) :
  Boxed (W.setCell ⟨g, l.length * 2 + 1, none⟩ (.int .i64 a)) gp 4 (.bool op) ∧ SwAt base gr gf go gp gt K f o h (.slice (some ⟨g, 0, none⟩) (l.length + 1) cap) (l ++ [⟨x.f0, a⟩]) ((W.setCell ⟨g, l.length * 2 + 1, none⟩ (.int .i64 a)).setCell ⟨gp, 0, none⟩ (.bool h)) ∧ Turns (fun k => k = gp ∨ k = gt ∨ (Value.slice (some ⟨g, 0, none⟩) (l.length + 1) cap).ownBlock = some k) W ((W.setCell ⟨g, l.length * 2 + 1, none⟩ (.int .i64 a)).setCell ⟨gp, 0, none⟩ (.bool h)) := by
 have hrow : W.ownsRow base 24 2 (.slice (some ⟨g, 0, none⟩) (l.length + 1) cap) (l.length + 1) (cellsS (l ++ [x])) := by have := hs.row; rwa [List.length_append, List.length_singleton] at this
 have n1 := hs.rule.not_row (e := 24) (by decide) hrow
 have n2 := hs.fst.not_row (e := 24) (by decide) hrow
 have n3 := hs.oth.not_row (e := 24) (by decide) hrow
 have n4 := hs.opn.not_row (e := 24) (by decide) hrow
 have n5 := hs.box.not_row (e := 24) (by decide) hrow
 obtain ⟨r1, g1⟩ := hrow.stored (l.length * 2 + 1) (.int .i64 a)
 have e : (cellsS (l ++ [x])).set (l.length * 2 + 1) (.int .i64 a) = cellsS (l ++ [⟨x.f0, a⟩]) := by
  rw [cellsS_append, cellsS_append, List.set_append_right _ _ (by rw [cellsS_len]; omega), cellsS_len, show l.length * 2 + 1 - l.length * 2 = 1 by omega]
  rfl
 rw [e] at r1
 have k1 := hs.rule.kept g1 n1
 have k2 := hs.fst.kept g1 n2
 have k3 := hs.oth.kept g1 n3
 have k4 := hs.opn.kept g1 n4
 have k5 := hs.box.kept g1 n5
 obtain ⟨p1, p2, p3, p4⟩ := hs.np
 refine ⟨k4, ⟨k1.other (Ne.symm p2) _, k2.other (Ne.symm p3) _, k3.other (Ne.symm p4) _, k4.set _, k5.other (Ne.symm p1) _, ?_, hs.np, hs.nt, hs.nf, hs.le⟩, ?_⟩
 ·rw [List.length_append, List.length_singleton]
  exact r1.kept (grownBy_setCell' _ gp _) (.inr (k4.not_row (by decide) r1).symm)
 ·exact (Turns.grown g1 (fun k hk => .inr (.inr (by cases hk; rfl)))).trans (Turns.setCell (p := ⟨gp, 0, none⟩) (.inl rfl) _ _)

/-- What a turn leaves. -/
def TurnPost (base gr gf go gp gt K : Nat) (f o : Int) (h : Bool) (v : Value) (out : List S24) (W : World) (e : Ending) (W' : World) : Prop :=
 e = .returned (.tuple #[]) ∧ ∃ v', SwAt base gr gf go gp gt K f o h v' out W' ∧ Turns (fun k => k = gp ∨ k = gt ∨ v.ownBlock = some k) W W'

set_option maxHeartbeats 2000000 in
set_option maxRecDepth 100000 in
theorem turn_same38 (base gr gf go gp gt : Nat) (f o : Int) (op : Bool) (v : Value) (out : List S24) (a : Int) (w : World) (hs : SwAt base gr gf go gp gt 38 f o op v out w) (hh : hasE f o = op) :
  Calls Try.prog 39 #[.int .i64 a, .pointer (some ⟨gr, 0, none⟩), .pointer (some ⟨gf, 0, none⟩), .pointer (some ⟨go, 0, none⟩), .pointer (some ⟨gp, 0, none⟩), .pointer (some ⟨gt, 0, none⟩)] w (TurnPost base gr gf go gp gt 38 f o op v out w) := by
 have hu45 := Try.underlying45
 have hc1 := hs.rule.cell
 have hc2 := hs.fst.cell
 have hc3 := hs.oth.cell
 have hc4 := hs.opn.cell
 have hK : ∀ W, Calls Try.prog 38 #[.int .i64 f, .int .i64 o] W fun e w' => e = .returned (.bool op) ∧ w' = W := fun W => by rw [← hh]; exact (hasE_calls f o W).mono (fun _ _ h => ⟨h.1, h.2.symm⟩)
 have HS := Aside0.mk hs
 have HK := Aside0.mk hK
 clear hs hh hK
 cases op with
 | true =>
  go_enter Try.func39, Try.ntmps39
  go_wp2
  go_quiet ((go_at_call 38; exact Calls.quiet_of_same (HK.out _)))
  go_wp2
  go_end0
  exact ⟨rfl, v, HS.out.drew _, Turns.drewN _ _ _⟩
 | false =>
  go_enter Try.func39, Try.ntmps39
  go_wp2
  go_quiet ((go_at_call 38; exact Calls.quiet_of_same (HK.out _)))
  go_wp2
  go_end0
  exact ⟨rfl, v, HS.out.drew _, Turns.drewN _ _ _⟩

set_option maxHeartbeats 2000000 in
set_option maxRecDepth 100000 in
theorem turn_open38 (base gr gf go gp gt : Nat) (f o : Int) (v : Value) (out : List S24) (a : Int) (w : World) (hs : SwAt base gr gf go gp gt 38 f o false v out w) (hh : hasE f o = true) (hb : base ≤ w.heap.size) (hl : out.length ≤ 1099511627776) :
  Calls Try.prog 39 #[.int .i64 a, .pointer (some ⟨gr, 0, none⟩), .pointer (some ⟨gf, 0, none⟩), .pointer (some ⟨go, 0, none⟩), .pointer (some ⟨gp, 0, none⟩), .pointer (some ⟨gt, 0, none⟩)] w (TurnPost base gr gf go gp gt 38 f o true v (out ++ [⟨a, 0⟩]) w) := by
 have hu45 := Try.underlying45
 have hu24 := Try.underlying24
 obtain ⟨i0, hi, hz0, hz1, hz2⟩ := info_parts info24o
 have hc1 := hs.rule.cell
 have hc2 := hs.fst.cell
 have hc3 := hs.oth.cell
 have hc4 := hs.opn.cell
 have hc5 := hs.box.cell
 have hK : ∀ W, Calls Try.prog 38 #[.int .i64 f, .int .i64 o] W fun e w' => e = .returned (.bool true) ∧ w' = W := fun W => by rw [← hh]; exact (hasE_calls f o W).mono (fun _ _ h => ⟨h.1, h.2.symm⟩)
 have HS := Aside0.mk hs
 have HK := Aside0.mk hK
 clear hs hh hK
 go_enter Try.func39, Try.ntmps39
 go_wp2
 go_quiet ((go_at_call 38; exact Calls.quiet_of_same (HK.out _)))
 go_wp2_with (at_builtin; refine wpList_append_own _ rfl _ _ 22 rfl base 24 i0 (.agg #[(.int .i64 0), (.int .i64 0)]) 2 16 Try.underlying22 hi hz0 hz1 hz2 rfl (by decide) _ _ _ rfl ((HS.out.drew nq).row.alloc _) ⟨w.heap.size, 0, none⟩ 1 1 [.int .i64 a, .int .i64 0] rfl rfl ?c1 ?c2 ?c3 ?c4 ?c5 ?_; (case c1 => exact two_at (World.alloc_heap_new (w.drewN nq) (.cells #[.int .i64 a, .int .i64 0] 24))); (case c2 => intro u hu; simp only [List.mem_cons, List.not_mem_nil, or_false] at hu; rcases hu with rfl | rfl <;> rfl); (case c3 => unfold maxLen; omega); (case c4 => omega); (case c5 => simp; omega); intro v' w1 ho1 hg1 _; obtain ⟨g1, cp1, rfl⟩ := own_slice ho1 (by omega); have hm := (HS.out.drew nq).more (h := true) (out1 := out ++ [⟨a, 0⟩]) hg1 (by rw [cellsS_append, List.length_append]; exact ho1); have HM := Aside0.mk hm.2.2; have b1 := hm.1.cell; have b2 := hm.1.frozen; have b3 := hm.2.1.cell; have b4 := hm.2.1.frozen; clear hm ho1 hg1)
 go_end0
 exact ⟨rfl, _, HM.out.1, (Turns.drewN _ _ _).trans HM.out.2⟩

set_option maxHeartbeats 2000000 in
set_option maxRecDepth 100000 in
theorem turn_close38 (base gr gf go gp gt : Nat) (f o : Int) (v : Value) (l : List S24) (x : S24) (a : Int) (w : World) (hs : SwAt base gr gf go gp gt 38 f o true v (l ++ [x]) w) (hh : hasE f o = false) (hl : l.length ≤ 1099511627776) :
  Calls Try.prog 39 #[.int .i64 a, .pointer (some ⟨gr, 0, none⟩), .pointer (some ⟨gf, 0, none⟩), .pointer (some ⟨go, 0, none⟩), .pointer (some ⟨gp, 0, none⟩), .pointer (some ⟨gt, 0, none⟩)] w (TurnPost base gr gf go gp gt 38 f o false v (l ++ [⟨x.f0, a⟩]) w) := by
 have hu45 := Try.underlying45
 have hu24 := Try.underlying24
 obtain ⟨g, cap, hv⟩ : ∃ g cap, v = .slice (some ⟨g, 0, none⟩) (l.length + 1) cap := by
  rcases hs.row.2 with ⟨_, h⟩ | ⟨g, cap, _, h, _⟩
  ·simp at h
  ·exact ⟨g, cap, by rw [h]; simp⟩
 subst hv
 have hc1 := hs.rule.cell
 have hc2 := hs.fst.cell
 have hc3 := hs.oth.cell
 have hc4 := hs.opn.cell
 have hc5 := hs.box.cell
 have hrow : w.ownsRow base 24 2 (.slice (some ⟨g, 0, none⟩) (l.length + 1) cap) (l.length + 1) (cellsS (l ++ [x])) := by have := hs.row; rwa [List.length_append, List.length_singleton] at this
 have hr1 : w.cell? ⟨g, l.length * 2 + 1, none⟩ = some (.int .i64 x.f1) := by
  rw [hrow.cellAt _ (by omega), cellsS_append, List.getElem?_append_right (by rw [cellsS_len]; omega), cellsS_len, show l.length * 2 + 1 - l.length * 2 = 1 by omega]
  rfl
 have hr2 := hrow.frozenAt (l.length * 2 + 1)
 have hK : ∀ W, Calls Try.prog 38 #[.int .i64 f, .int .i64 o] W fun e w' => e = .returned (.bool false) ∧ w' = W := fun W => by rw [← hh]; exact (hasE_calls f o W).mono (fun _ _ h => ⟨h.1, h.2.symm⟩)
 have HS := Aside0.mk hs
 have HK := Aside0.mk hK
 have hcl := fun n => ((hs.drew n).close (a := a) (h := false)).1.cell
 have hcf := fun n => ((hs.drew n).close (a := a) (h := false)).1.frozen
 clear hs hh hK hrow
 have H1 := Aside0.mk hcl
 have H2 := Aside0.mk hcf
 clear hcl hcf
 go_enter Try.func39, Try.ntmps39
 go_wp2
 go_quiet ((go_at_call 38; exact Calls.quiet_of_same (HK.out _)))
 have hcl := H1.out nq
 have hcf := H2.out nq
 go_wp2
 go_end0
 exact ⟨rfl, _, ((HS.out.drew nq).close (a := a) (h := false)).2.1, (Turns.drewN _ _ nq).trans ((HS.out.drew nq).close (a := a) (h := false)).2.2⟩

set_option maxHeartbeats 2000000 in
set_option maxRecDepth 100000 in
theorem turn_same42 (base gr gf go gp gt : Nat) (f o : Int) (op : Bool) (v : Value) (out : List S24) (a : Int) (w : World) (hs : SwAt base gr gf go gp gt 42 f o op v out w) (hh : hasB f o = op) :
  Calls Try.prog 39 #[.int .i64 a, .pointer (some ⟨gr, 0, none⟩), .pointer (some ⟨gf, 0, none⟩), .pointer (some ⟨go, 0, none⟩), .pointer (some ⟨gp, 0, none⟩), .pointer (some ⟨gt, 0, none⟩)] w (TurnPost base gr gf go gp gt 42 f o op v out w) := by
 have hu45 := Try.underlying45
 have hc1 := hs.rule.cell
 have hc2 := hs.fst.cell
 have hc3 := hs.oth.cell
 have hc4 := hs.opn.cell
 have hK : ∀ W, Calls Try.prog 42 #[.int .i64 f, .int .i64 o] W fun e w' => e = .returned (.bool op) ∧ w' = W := fun W => by rw [← hh]; exact (hasB_calls f o W).mono (fun _ _ h => ⟨h.1, h.2.symm⟩)
 have HS := Aside0.mk hs
 have HK := Aside0.mk hK
 clear hs hh hK
 cases op with
 | true =>
  go_enter Try.func39, Try.ntmps39
  go_wp2
  go_quiet ((go_at_call 42; exact Calls.quiet_of_same (HK.out _)))
  go_wp2
  go_end0
  exact ⟨rfl, v, HS.out.drew _, Turns.drewN _ _ _⟩
 | false =>
  go_enter Try.func39, Try.ntmps39
  go_wp2
  go_quiet ((go_at_call 42; exact Calls.quiet_of_same (HK.out _)))
  go_wp2
  go_end0
  exact ⟨rfl, v, HS.out.drew _, Turns.drewN _ _ _⟩

set_option maxHeartbeats 2000000 in
set_option maxRecDepth 100000 in
theorem turn_open42 (base gr gf go gp gt : Nat) (f o : Int) (v : Value) (out : List S24) (a : Int) (w : World) (hs : SwAt base gr gf go gp gt 42 f o false v out w) (hh : hasB f o = true) (hb : base ≤ w.heap.size) (hl : out.length ≤ 1099511627776) :
  Calls Try.prog 39 #[.int .i64 a, .pointer (some ⟨gr, 0, none⟩), .pointer (some ⟨gf, 0, none⟩), .pointer (some ⟨go, 0, none⟩), .pointer (some ⟨gp, 0, none⟩), .pointer (some ⟨gt, 0, none⟩)] w (TurnPost base gr gf go gp gt 42 f o true v (out ++ [⟨a, 0⟩]) w) := by
 have hu45 := Try.underlying45
 have hu24 := Try.underlying24
 obtain ⟨i0, hi, hz0, hz1, hz2⟩ := info_parts info24o
 have hc1 := hs.rule.cell
 have hc2 := hs.fst.cell
 have hc3 := hs.oth.cell
 have hc4 := hs.opn.cell
 have hc5 := hs.box.cell
 have hK : ∀ W, Calls Try.prog 42 #[.int .i64 f, .int .i64 o] W fun e w' => e = .returned (.bool true) ∧ w' = W := fun W => by rw [← hh]; exact (hasB_calls f o W).mono (fun _ _ h => ⟨h.1, h.2.symm⟩)
 have HS := Aside0.mk hs
 have HK := Aside0.mk hK
 clear hs hh hK
 go_enter Try.func39, Try.ntmps39
 go_wp2
 go_quiet ((go_at_call 42; exact Calls.quiet_of_same (HK.out _)))
 go_wp2_with (at_builtin; refine wpList_append_own _ rfl _ _ 22 rfl base 24 i0 (.agg #[(.int .i64 0), (.int .i64 0)]) 2 16 Try.underlying22 hi hz0 hz1 hz2 rfl (by decide) _ _ _ rfl ((HS.out.drew nq).row.alloc _) ⟨w.heap.size, 0, none⟩ 1 1 [.int .i64 a, .int .i64 0] rfl rfl ?c1 ?c2 ?c3 ?c4 ?c5 ?_; (case c1 => exact two_at (World.alloc_heap_new (w.drewN nq) (.cells #[.int .i64 a, .int .i64 0] 24))); (case c2 => intro u hu; simp only [List.mem_cons, List.not_mem_nil, or_false] at hu; rcases hu with rfl | rfl <;> rfl); (case c3 => unfold maxLen; omega); (case c4 => omega); (case c5 => simp; omega); intro v' w1 ho1 hg1 _; obtain ⟨g1, cp1, rfl⟩ := own_slice ho1 (by omega); have hm := (HS.out.drew nq).more (h := true) (out1 := out ++ [⟨a, 0⟩]) hg1 (by rw [cellsS_append, List.length_append]; exact ho1); have HM := Aside0.mk hm.2.2; have b1 := hm.1.cell; have b2 := hm.1.frozen; have b3 := hm.2.1.cell; have b4 := hm.2.1.frozen; clear hm ho1 hg1)
 go_end0
 exact ⟨rfl, _, HM.out.1, (Turns.drewN _ _ _).trans HM.out.2⟩

set_option maxHeartbeats 2000000 in
set_option maxRecDepth 100000 in
theorem turn_close42 (base gr gf go gp gt : Nat) (f o : Int) (v : Value) (l : List S24) (x : S24) (a : Int) (w : World) (hs : SwAt base gr gf go gp gt 42 f o true v (l ++ [x]) w) (hh : hasB f o = false) (hl : l.length ≤ 1099511627776) :
  Calls Try.prog 39 #[.int .i64 a, .pointer (some ⟨gr, 0, none⟩), .pointer (some ⟨gf, 0, none⟩), .pointer (some ⟨go, 0, none⟩), .pointer (some ⟨gp, 0, none⟩), .pointer (some ⟨gt, 0, none⟩)] w (TurnPost base gr gf go gp gt 42 f o false v (l ++ [⟨x.f0, a⟩]) w) := by
 have hu45 := Try.underlying45
 have hu24 := Try.underlying24
 obtain ⟨g, cap, hv⟩ : ∃ g cap, v = .slice (some ⟨g, 0, none⟩) (l.length + 1) cap := by
  rcases hs.row.2 with ⟨_, h⟩ | ⟨g, cap, _, h, _⟩
  ·simp at h
  ·exact ⟨g, cap, by rw [h]; simp⟩
 subst hv
 have hc1 := hs.rule.cell
 have hc2 := hs.fst.cell
 have hc3 := hs.oth.cell
 have hc4 := hs.opn.cell
 have hc5 := hs.box.cell
 have hrow : w.ownsRow base 24 2 (.slice (some ⟨g, 0, none⟩) (l.length + 1) cap) (l.length + 1) (cellsS (l ++ [x])) := by have := hs.row; rwa [List.length_append, List.length_singleton] at this
 have hr1 : w.cell? ⟨g, l.length * 2 + 1, none⟩ = some (.int .i64 x.f1) := by
  rw [hrow.cellAt _ (by omega), cellsS_append, List.getElem?_append_right (by rw [cellsS_len]; omega), cellsS_len, show l.length * 2 + 1 - l.length * 2 = 1 by omega]
  rfl
 have hr2 := hrow.frozenAt (l.length * 2 + 1)
 have hK : ∀ W, Calls Try.prog 42 #[.int .i64 f, .int .i64 o] W fun e w' => e = .returned (.bool false) ∧ w' = W := fun W => by rw [← hh]; exact (hasB_calls f o W).mono (fun _ _ h => ⟨h.1, h.2.symm⟩)
 have HS := Aside0.mk hs
 have HK := Aside0.mk hK
 have hcl := fun n => ((hs.drew n).close (a := a) (h := false)).1.cell
 have hcf := fun n => ((hs.drew n).close (a := a) (h := false)).1.frozen
 clear hs hh hK hrow
 have H1 := Aside0.mk hcl
 have H2 := Aside0.mk hcf
 clear hcl hcf
 go_enter Try.func39, Try.ntmps39
 go_wp2
 go_quiet ((go_at_call 42; exact Calls.quiet_of_same (HK.out _)))
 have hcl := H1.out nq
 have hcf := H2.out nq
 go_wp2
 go_end0
 exact ⟨rfl, _, ((HS.out.drew nq).close (a := a) (h := false)).2.1, (Turns.drewN _ _ nq).trans ((HS.out.drew nq).close (a := a) (h := false)).2.2⟩

set_option maxHeartbeats 2000000 in
set_option maxRecDepth 100000 in
theorem turn_same43 (base gr gf go gp gt : Nat) (f o : Int) (op : Bool) (v : Value) (out : List S24) (a : Int) (w : World) (hs : SwAt base gr gf go gp gt 43 f o op v out w) (hh : hasO f o = op) :
  Calls Try.prog 39 #[.int .i64 a, .pointer (some ⟨gr, 0, none⟩), .pointer (some ⟨gf, 0, none⟩), .pointer (some ⟨go, 0, none⟩), .pointer (some ⟨gp, 0, none⟩), .pointer (some ⟨gt, 0, none⟩)] w (TurnPost base gr gf go gp gt 43 f o op v out w) := by
 have hu45 := Try.underlying45
 have hc1 := hs.rule.cell
 have hc2 := hs.fst.cell
 have hc3 := hs.oth.cell
 have hc4 := hs.opn.cell
 have hK : ∀ W, Calls Try.prog 43 #[.int .i64 f, .int .i64 o] W fun e w' => e = .returned (.bool op) ∧ w' = W := fun W => by rw [← hh]; exact (hasO_calls f o W).mono (fun _ _ h => ⟨h.1, h.2.symm⟩)
 have HS := Aside0.mk hs
 have HK := Aside0.mk hK
 clear hs hh hK
 cases op with
 | true =>
  go_enter Try.func39, Try.ntmps39
  go_wp2
  go_quiet ((go_at_call 43; exact Calls.quiet_of_same (HK.out _)))
  go_wp2
  go_end0
  exact ⟨rfl, v, HS.out.drew _, Turns.drewN _ _ _⟩
 | false =>
  go_enter Try.func39, Try.ntmps39
  go_wp2
  go_quiet ((go_at_call 43; exact Calls.quiet_of_same (HK.out _)))
  go_wp2
  go_end0
  exact ⟨rfl, v, HS.out.drew _, Turns.drewN _ _ _⟩

set_option maxHeartbeats 2000000 in
set_option maxRecDepth 100000 in
theorem turn_open43 (base gr gf go gp gt : Nat) (f o : Int) (v : Value) (out : List S24) (a : Int) (w : World) (hs : SwAt base gr gf go gp gt 43 f o false v out w) (hh : hasO f o = true) (hb : base ≤ w.heap.size) (hl : out.length ≤ 1099511627776) :
  Calls Try.prog 39 #[.int .i64 a, .pointer (some ⟨gr, 0, none⟩), .pointer (some ⟨gf, 0, none⟩), .pointer (some ⟨go, 0, none⟩), .pointer (some ⟨gp, 0, none⟩), .pointer (some ⟨gt, 0, none⟩)] w (TurnPost base gr gf go gp gt 43 f o true v (out ++ [⟨a, 0⟩]) w) := by
 have hu45 := Try.underlying45
 have hu24 := Try.underlying24
 obtain ⟨i0, hi, hz0, hz1, hz2⟩ := info_parts info24o
 have hc1 := hs.rule.cell
 have hc2 := hs.fst.cell
 have hc3 := hs.oth.cell
 have hc4 := hs.opn.cell
 have hc5 := hs.box.cell
 have hK : ∀ W, Calls Try.prog 43 #[.int .i64 f, .int .i64 o] W fun e w' => e = .returned (.bool true) ∧ w' = W := fun W => by rw [← hh]; exact (hasO_calls f o W).mono (fun _ _ h => ⟨h.1, h.2.symm⟩)
 have HS := Aside0.mk hs
 have HK := Aside0.mk hK
 clear hs hh hK
 go_enter Try.func39, Try.ntmps39
 go_wp2
 go_quiet ((go_at_call 43; exact Calls.quiet_of_same (HK.out _)))
 go_wp2_with (at_builtin; refine wpList_append_own _ rfl _ _ 22 rfl base 24 i0 (.agg #[(.int .i64 0), (.int .i64 0)]) 2 16 Try.underlying22 hi hz0 hz1 hz2 rfl (by decide) _ _ _ rfl ((HS.out.drew nq).row.alloc _) ⟨w.heap.size, 0, none⟩ 1 1 [.int .i64 a, .int .i64 0] rfl rfl ?c1 ?c2 ?c3 ?c4 ?c5 ?_; (case c1 => exact two_at (World.alloc_heap_new (w.drewN nq) (.cells #[.int .i64 a, .int .i64 0] 24))); (case c2 => intro u hu; simp only [List.mem_cons, List.not_mem_nil, or_false] at hu; rcases hu with rfl | rfl <;> rfl); (case c3 => unfold maxLen; omega); (case c4 => omega); (case c5 => simp; omega); intro v' w1 ho1 hg1 _; obtain ⟨g1, cp1, rfl⟩ := own_slice ho1 (by omega); have hm := (HS.out.drew nq).more (h := true) (out1 := out ++ [⟨a, 0⟩]) hg1 (by rw [cellsS_append, List.length_append]; exact ho1); have HM := Aside0.mk hm.2.2; have b1 := hm.1.cell; have b2 := hm.1.frozen; have b3 := hm.2.1.cell; have b4 := hm.2.1.frozen; clear hm ho1 hg1)
 go_end0
 exact ⟨rfl, _, HM.out.1, (Turns.drewN _ _ _).trans HM.out.2⟩

set_option maxHeartbeats 2000000 in
set_option maxRecDepth 100000 in
theorem turn_close43 (base gr gf go gp gt : Nat) (f o : Int) (v : Value) (l : List S24) (x : S24) (a : Int) (w : World) (hs : SwAt base gr gf go gp gt 43 f o true v (l ++ [x]) w) (hh : hasO f o = false) (hl : l.length ≤ 1099511627776) :
  Calls Try.prog 39 #[.int .i64 a, .pointer (some ⟨gr, 0, none⟩), .pointer (some ⟨gf, 0, none⟩), .pointer (some ⟨go, 0, none⟩), .pointer (some ⟨gp, 0, none⟩), .pointer (some ⟨gt, 0, none⟩)] w (TurnPost base gr gf go gp gt 43 f o false v (l ++ [⟨x.f0, a⟩]) w) := by
 have hu45 := Try.underlying45
 have hu24 := Try.underlying24
 obtain ⟨g, cap, hv⟩ : ∃ g cap, v = .slice (some ⟨g, 0, none⟩) (l.length + 1) cap := by
  rcases hs.row.2 with ⟨_, h⟩ | ⟨g, cap, _, h, _⟩
  ·simp at h
  ·exact ⟨g, cap, by rw [h]; simp⟩
 subst hv
 have hc1 := hs.rule.cell
 have hc2 := hs.fst.cell
 have hc3 := hs.oth.cell
 have hc4 := hs.opn.cell
 have hc5 := hs.box.cell
 have hrow : w.ownsRow base 24 2 (.slice (some ⟨g, 0, none⟩) (l.length + 1) cap) (l.length + 1) (cellsS (l ++ [x])) := by have := hs.row; rwa [List.length_append, List.length_singleton] at this
 have hr1 : w.cell? ⟨g, l.length * 2 + 1, none⟩ = some (.int .i64 x.f1) := by
  rw [hrow.cellAt _ (by omega), cellsS_append, List.getElem?_append_right (by rw [cellsS_len]; omega), cellsS_len, show l.length * 2 + 1 - l.length * 2 = 1 by omega]
  rfl
 have hr2 := hrow.frozenAt (l.length * 2 + 1)
 have hK : ∀ W, Calls Try.prog 43 #[.int .i64 f, .int .i64 o] W fun e w' => e = .returned (.bool false) ∧ w' = W := fun W => by rw [← hh]; exact (hasO_calls f o W).mono (fun _ _ h => ⟨h.1, h.2.symm⟩)
 have HS := Aside0.mk hs
 have HK := Aside0.mk hK
 have hcl := fun n => ((hs.drew n).close (a := a) (h := false)).1.cell
 have hcf := fun n => ((hs.drew n).close (a := a) (h := false)).1.frozen
 clear hs hh hK hrow
 have H1 := Aside0.mk hcl
 have H2 := Aside0.mk hcf
 clear hcl hcf
 go_enter Try.func39, Try.ntmps39
 go_wp2
 go_quiet ((go_at_call 43; exact Calls.quiet_of_same (HK.out _)))
 have hcl := H1.out nq
 have hcf := H2.out nq
 go_wp2
 go_end0
 exact ⟨rfl, _, ((HS.out.drew nq).close (a := a) (h := false)).2.1, (Turns.drewN _ _ nq).trans ((HS.out.drew nq).close (a := a) (h := false)).2.2⟩

/-! ### the set of a rule -/
/-- Whether a bound's group ends ahead of these. -/
def endsGrp (a : Int) : List S56 → Bool
 | [] => true
 | x :: _ => x.f0 != a
/-- The sweep over what is left of the bounds. -/
def swp (has : Int → Int → Bool) : List S56 → Int → Int → Bool → List S24 → List S24
 | [], _, _, _, out => out
 | e :: r, f, o, op, out =>
  if endsGrp e.f0 r = true then swp has r (wrap64 (f + e.f1)) (wrap64 (o + e.f2)) (has (wrap64 (f + e.f1)) (wrap64 (o + e.f2))) (turnF (has (wrap64 (f + e.f1)) (wrap64 (o + e.f2))) op out e.f0)
  else swp has r (wrap64 (f + e.f1)) (wrap64 (o + e.f2)) op out

theorem swp_cons (has : Int → Int → Bool) (e : S56) (r : List S56) (f o : Int) (op : Bool) (out : List S24) : swp has (e :: r) f o op out = if endsGrp e.f0 r = true then swp has r (wrap64 (f + e.f1)) (wrap64 (o + e.f2)) (has (wrap64 (f + e.f1)) (wrap64 (o + e.f2))) (turnF (has (wrap64 (f + e.f1)) (wrap64 (o + e.f2))) op out e.f0) else swp has r (wrap64 (f + e.f1)) (wrap64 (o + e.f2)) op out := rfl
theorem turnF_ne {h op : Bool} {out : List S24} {a : Int} (hn : op = true → out ≠ []) : h = true → turnF h op out a ≠ [] := by
 intro hh
 unfold turnF
 cases op with
 | true => rw [if_pos hh]; exact hn rfl
 | false => rw [if_neg (by rw [hh]; decide), if_neg (by decide)]; simp
theorem turnF_len (h op : Bool) (out : List S24) (a : Int) : (turnF h op out a).length ≤ out.length + 1 := by
 unfold turnF
 split
 ·omega
 ·split
  ·simp; try omega
  ·simp

/-- What a turn does, for a rule K that tells has. -/
def TurnsLike (K : Nat) (has : Int → Int → Bool) : Prop :=
 ∀ (base gr gf go gp gt : Nat) (f o : Int) (op : Bool) (v : Value) (out : List S24) (a : Int) (w : World), SwAt base gr gf go gp gt K f o op v out w → base ≤ w.heap.size → out.length ≤ 1099511627776 → (op = true → out ≠ []) →
  Calls Try.prog 39 #[.int .i64 a, .pointer (some ⟨gr, 0, none⟩), .pointer (some ⟨gf, 0, none⟩), .pointer (some ⟨go, 0, none⟩), .pointer (some ⟨gp, 0, none⟩), .pointer (some ⟨gt, 0, none⟩)] w (TurnPost base gr gf go gp gt K f o (has f o) v (turnF (has f o) op out a) w)

theorem R24_of {W : World} {base : Nat} {v : Value} {out : List S24} (h : W.ownsRow base 24 2 v out.length (cellsS out)) : Kd.R k24 24 W base (fun _ => True) v out := by
 refine ⟨fun _ _ => trivial, cellsS out, h, cellsS_len out, fun j p hp => ?_⟩
 have e : ∀ (l : List S24) (j : Nat) (p : S24), l[j]? = some p → ((cellsS l).drop (j * 2)).take 2 = [.int .i64 p.f0, .int .i64 p.f1] := by
  intro l
  induction l with
  | nil => intro j p hp; simp at hp
  | cons x l ih =>
   intro j p hp
   rcases j with _ | j
   ·obtain rfl : x = p := by simpa using hp
    rfl
   ·have := ih j p (by simpa using hp)
    rw [show (j + 1) * 2 = 2 + j * 2 by omega, ← List.drop_drop]
    exact this
 show k24.M W base _ p (((cellsS out).drop (j * 2)).take 2)
 rw [e out j p hp]
 exact k24_mkM _ _ _ _

/-- Where the loop of set stands, at bound x. -/
def SetRel (has : Int → Int → Bool) (w : World) (gr gf go gp gt K : Nat) (bl : Nat) (vl : Value) (l : List S56) (r : List S24) (i : Value) (wr : World) : Prop :=
 ∃ (x : Int) (f o : Int) (op : Bool) (v : Value) (out : List S24), i = .int .i64 x ∧ 0 ≤ x ∧ x ≤ (l.length : Int) ∧ (op = true → out ≠ []) ∧ (out.length : Int) ≤ x ∧ Aside0 (r = swp has (l.drop x.toNat) f o op out) ∧ Aside0 (SwAt w.heap.size gr gf go gp gt K f o op v out wr) ∧ Aside0 (wr.ownsRow bl 56 3 vl l.length (cellsE l)) ∧ Aside0 (Below w.heap.size w wr)

theorem own_lenE {W : World} {base : Nat} {v : Value} {l : List S56} (h : W.ownsRow base 56 3 v l.length (cellsE l)) : l.length ≤ 9223372036854775807 := by
 rcases h.2 with ⟨_, h⟩ | ⟨_, _, _, _, _, _, h1, h2, _⟩
 ·omega
 ·unfold maxLen at h2; omega
theorem R56_of {W : World} {base : Nat} {v : Value} {l : List S56} (h : W.ownsRow base 56 3 v l.length (cellsE l)) : Kd.R k56 56 W base (fun _ => True) v l := by
 refine ⟨fun _ _ => trivial, cellsE l, h, cellsE_len l, fun j p hp => ?_⟩
 have e : ∀ (l : List S56) (j : Nat) (p : S56), l[j]? = some p → ((cellsE l).drop (j * 3)).take 3 = [.int .i64 p.f0, .int .i64 p.f1, .int .i64 p.f2] := by
  intro l
  induction l with
  | nil => intro j p hp; simp at hp
  | cons x l ih =>
   intro j p hp
   rcases j with _ | j
   ·obtain rfl : x = p := by simpa using hp
    rfl
   ·have := ih j p (by simpa using hp)
    rw [show (j + 1) * 3 = 3 + j * 3 by omega, ← List.drop_drop]
    exact this
 show k56.M W base _ p (((cellsE l).drop (j * 3)).take 3)
 rw [e l j p hp]
 exact k56_mkM _ _ _ _

theorem SwAt.below {base gr gf go gp gt K : Nat} {f o : Int} {op : Bool} {v : Value} {out : List S24} {W W' : World} (h : SwAt base gr gf go gp gt K f o op v out W) (hb : Below W.heap.size W W') : SwAt base gr gf go gp gt K f o op v out W' :=
 ⟨(hb.block _ h.rule.lt).trans h.rule, (hb.block _ h.fst.lt).trans h.fst, (hb.block _ h.oth.lt).trans h.oth, (hb.block _ h.opn.lt).trans h.opn, (hb.block _ h.box.lt).trans h.box, pw_own_below h.row hb, h.np, h.nt, h.nf, h.le⟩

theorem SwAt.start (w : World) (K : Nat) : SwAt w.heap.size w.heap.size (w.heap.size + 1 + 1) (w.heap.size + 1 + 1 + 1) (w.heap.size + 1 + 1 + 1 + 1) (w.heap.size + 1) K 0 0 false (.slice none 0 0) [] (((((w.alloc (.cells #[.func (.func K) #[] #[]] 45)).alloc (.cells #[.slice none 0 0] 22)).alloc (.cells #[.int .i64 0] 3)).alloc (.cells #[.int .i64 0] 3)).alloc (.cells #[.bool false] 4)) := by
 have b1 := Boxed.new w 45 (.func (.func K) #[] #[])
 have b2 := Boxed.new (w.alloc (.cells #[.func (.func K) #[] #[]] 45)) 22 (.slice none 0 0)
 have b3 := Boxed.new ((w.alloc (.cells #[.func (.func K) #[] #[]] 45)).alloc (.cells #[.slice none 0 0] 22)) 3 (.int .i64 0)
 have b4 := Boxed.new (((w.alloc (.cells #[.func (.func K) #[] #[]] 45)).alloc (.cells #[.slice none 0 0] 22)).alloc (.cells #[.int .i64 0] 3)) 3 (.int .i64 0)
 have b5 := Boxed.new ((((w.alloc (.cells #[.func (.func K) #[] #[]] 45)).alloc (.cells #[.slice none 0 0] 22)).alloc (.cells #[.int .i64 0] 3)).alloc (.cells #[.int .i64 0] 3)) 4 (.bool false)
 simp only [World.size_alloc] at b2 b3 b4 b5
 exact ⟨(((b1.alloc _).alloc _).alloc _).alloc _, (b3.alloc _).alloc _, b4.alloc _, b5, ((b2.alloc _).alloc _).alloc _, own_nil _ _ _ _, by omega, by omega, by omega, by omega⟩

/-- Behind the two counts and the bound's own box. -/
theorem SwAt.count {base gr gf go gp gt K bl cl : Nat} {f o f1 o1 : Int} {op : Bool} {v : Value} {out : List S24} {l : List S56} {ad : Option Addr} {W : World} (h : SwAt base gr gf go gp gt K f o op v out W) (ho : W.ownsRow bl 56 3 (.slice ad l.length cl) l.length (cellsE l)) (ob : Obj) :
  SwAt base gr gf go gp gt K f1 o1 op v out (((W.setCell ⟨gf, 0, none⟩ (.int .i64 f1)).setCell ⟨go, 0, none⟩ (.int .i64 o1)).alloc ob) ∧ (((W.setCell ⟨gf, 0, none⟩ (.int .i64 f1)).setCell ⟨go, 0, none⟩ (.int .i64 o1)).alloc ob).ownsRow bl 56 3 (.slice ad l.length cl) l.length (cellsE l) ∧ Below base W (((W.setCell ⟨gf, 0, none⟩ (.int .i64 f1)).setCell ⟨go, 0, none⟩ (.int .i64 o1)).alloc ob) := by
 obtain ⟨p1, p2, p3, p4⟩ := h.np
 obtain ⟨t1, t2, t3⟩ := h.nt
 obtain ⟨f2, f3, f4⟩ := h.nf
 obtain ⟨l1, l2, l3, l4⟩ := h.le
 have a1 := h.fst.set (.int .i64 f1)
 have a2 := h.oth.other (Ne.symm f2) (.int .i64 f1)
 have r1 := h.row.kept (grownBy_setCell' W gf (.int .i64 f1)) (.inr (h.fst.not_row (by decide) h.row).symm)
 have q1 := ho.kept (grownBy_setCell' W gf (.int .i64 f1)) (.inr (h.fst.not_row (by decide) ho).symm)
 refine ⟨⟨((h.rule.other (Ne.symm f3) _).other (Ne.symm f4) _).alloc _, (a1.other f2 _).alloc _, (a2.set _).alloc _, ((h.opn.other p3 _).other p4 _).alloc _, ((h.box.other t2 _).other t3 _).alloc _, ?_, h.np, h.nt, h.nf, h.le⟩, ?_, ?_⟩
 ·exact (r1.kept (grownBy_setCell' _ go _) (.inr (a2.not_row (by decide) r1).symm)).alloc _
 ·exact (q1.kept (grownBy_setCell' _ go _) (.inr (a2.not_row (by decide) q1).symm)).alloc _
 ·refine Below.alloc (Below.setCell (Below.setCell (Below.refl _ _) (by simpa using l3) _) (by simpa using l4) _) ?_ _
  rw [Go.Proofs.Ytebggajdojdebaa.Rng.size_setCell, Go.Proofs.Ytebggajdojdebaa.Rng.size_setCell]
  have := h.fst.lt
  omega
theorem own_turns {W W' : World} {bl n size : Nat} {e : TypeId} {vl : Value} {cs : List Value} {T : Nat → Prop} (ho : W.ownsRow bl e size vl n cs) (hT : Turns T W W') (hne : ∀ g, vl.ownBlock = some g → ¬ T g) : W'.ownsRow bl e size vl n cs := by
 refine ⟨ho.1, ?_⟩
 rcases ho.2 with h | ⟨g, cap, cur, rfl, hb, hg, h⟩
 ·exact .inl h
 ·exact .inr ⟨g, cap, cur, rfl, hb, (hT.same g (Array.getElem?_eq_some_iff.1 hg).1 (hne g rfl)).trans hg, h⟩
theorem rows_ne {W : World} {b1 b2 n1 n2 s1 s2 g : Nat} {e1 e2 : TypeId} {v1 v2 : Value} {c1 c2 : List Value} (h1 : W.ownsRow b1 e1 s1 v1 n1 c1) (h2 : W.ownsRow b2 e2 s2 v2 n2 c2) (hne : e1 ≠ e2) (g1 : v1.ownBlock = some g) (g2 : v2.ownBlock = some g) : False := by
 rcases h1.2 with ⟨rfl, _⟩ | ⟨x, _, _, rfl, _, hx, _⟩
 ·simp [Value.ownBlock] at g1
 rcases h2.2 with ⟨rfl, _⟩ | ⟨y, _, _, rfl, _, hy, _⟩
 ·simp [Value.ownBlock] at g2
 obtain rfl : x = g := by simpa [Value.ownBlock] using g1
 obtain rfl : y = x := by simpa [Value.ownBlock] using g2
 rw [hx] at hy
 injection hy with hy
 injection hy with _ hy
 exact hne hy

/-- Behind a turn: the bounds' row, and what lay below. -/
theorem turn_rest {base gr gf go gp gt K bl cl : Nat} {f o : Int} {op : Bool} {v : Value} {out : List S24} {l : List S56} {ad : Option Addr} {w W W' : World} (h : SwAt base gr gf go gp gt K f o op v out W) (ho : W.ownsRow bl 56 3 (.slice ad l.length cl) l.length (cellsE l)) (hB : Below base w W) (hb : base ≤ W.heap.size) (hT : Turns (fun k => k = gp ∨ k = gt ∨ v.ownBlock = some k) W W') :
  W'.ownsRow bl 56 3 (.slice ad l.length cl) l.length (cellsE l) ∧ Below base w W' := by
 refine ⟨own_turns ho hT (fun g hg ht => ?_), hB.trans (hT.below (fun k hk => ?_) hb)⟩
 ·rcases ht with rfl | rfl | ht
  ·exact h.opn.not_row (by decide) ho hg.symm
  ·exact h.box.not_row (by decide) ho hg.symm
  ·exact rows_ne h.row ho (by decide) ht hg
 ·rcases hk with rfl | rfl | hk
  ·exact h.le.1
  ·exact h.le.2.1
  ·exact own_base h.row k hk

theorem wp_named {P : Program} {c : Code} {Q : Exit → Act → World → Prop} {a : Act} {W : World} (h : ∀ W1, W1 = W → c.wp P Q a W1) : c.wp P Q a W := h W rfl

theorem SetRel.turned {has : Int → Int → Bool} {w W8 w9 : World} {gr gf go gp gt K bl cl : Nat} {ad : Option Addr} {l : List S56} {r : List S24} {x f o : Int} {op : Bool} {v v' : Value} {out : List S24} {n : Nat} (hA : Aside0 (r = swp has (l.drop x.toNat) f o op out)) (hd : Aside0 (l.drop x.toNat = l.getD x.toNat z56 :: l.drop (x + 1).toNat))
  (hn : endsGrp (rd_T56 l x).f0 (l.drop (x + 1).toNat) = true) (h0 : 0 ≤ x) (h1 : x < (l.length : Int)) (hop : op = true → out ≠ []) (hol : (out.length : Int) ≤ x)
  (h8 : Aside0 (SwAt w.heap.size gr gf go gp gt K (wrap64 (f + (rd_T56 l x).f1)) (wrap64 (o + (rd_T56 l x).f2)) op v out W8)) (ho : Aside0 (W8.ownsRow bl 56 3 (.slice ad l.length cl) l.length (cellsE l))) (hB : Aside0 (Below w.heap.size w W8))
  (h9 : Aside0 (SwAt w.heap.size gr gf go gp gt K (wrap64 (f + (rd_T56 l x).f1)) (wrap64 (o + (rd_T56 l x).f2)) (has (wrap64 (f + (rd_T56 l x).f1)) (wrap64 (o + (rd_T56 l x).f2))) v' (turnF (has (wrap64 (f + (rd_T56 l x).f1)) (wrap64 (o + (rd_T56 l x).f2))) op out (rd_T56 l x).f0) w9)) (hT : Aside0 (Turns (fun k => k = gp ∨ k = gt ∨ v.ownBlock = some k) (W8.drewN n) w9)) :
  SetRel has w gr gf go gp gt K bl (.slice ad l.length cl) l r (.int .i64 (x + 1)) w9 := by
 obtain ⟨q1, q2⟩ := turn_rest (h8.out.drew n) (show (W8.drewN n).ownsRow bl 56 3 (.slice ad l.length cl) l.length (cellsE l) from ho.out) (show Below w.heap.size w (W8.drewN n) from hB.out.trans ⟨rfl, rfl, rfl, Nat.le_refl _, fun _ _ => rfl⟩) hB.out.size hT.out
 have hl := turnF_len (has (wrap64 (f + (rd_T56 l x).f1)) (wrap64 (o + (rd_T56 l x).f2))) op out (rd_T56 l x).f0
 refine ⟨x + 1, _, _, _, v', _, rfl, by omega, by omega, turnF_ne hop, by omega, ⟨?_⟩, h9, ⟨q1⟩, ⟨q2⟩⟩
 rw [hA.out, hd.out]
 show swp has (rd_T56 l x :: l.drop (x + 1).toNat) f o op out = _
 rw [swp_cons]
 rw [if_pos hn]
theorem SetRel.skipped {has : Int → Int → Bool} {w W8 : World} {gr gf go gp gt K bl cl : Nat} {ad : Option Addr} {l : List S56} {r : List S24} {x f o : Int} {op : Bool} {v : Value} {out : List S24} {n : Nat} (hA : Aside0 (r = swp has (l.drop x.toNat) f o op out)) (hd : Aside0 (l.drop x.toNat = l.getD x.toNat z56 :: l.drop (x + 1).toNat))
  (hn : ¬ endsGrp (rd_T56 l x).f0 (l.drop (x + 1).toNat) = true) (h0 : 0 ≤ x) (h1 : x < (l.length : Int)) (hop : op = true → out ≠ []) (hol : (out.length : Int) ≤ x)
  (h8 : Aside0 (SwAt w.heap.size gr gf go gp gt K (wrap64 (f + (rd_T56 l x).f1)) (wrap64 (o + (rd_T56 l x).f2)) op v out W8)) (ho : Aside0 (W8.ownsRow bl 56 3 (.slice ad l.length cl) l.length (cellsE l))) (hB : Aside0 (Below w.heap.size w W8)) :
  SetRel has w gr gf go gp gt K bl (.slice ad l.length cl) l r (.int .i64 (x + 1)) (W8.drewN n) := by
 refine ⟨x + 1, _, _, _, v, _, rfl, by omega, by omega, hop, by omega, ⟨?_⟩, ⟨h8.out.drew n⟩, ⟨ho.out⟩, ⟨hB.out.trans ⟨rfl, rfl, rfl, Nat.le_refl _, fun _ _ => rfl⟩⟩⟩
 rw [hA.out, hd.out]
 show swp has (rd_T56 l x :: l.drop (x + 1).toNat) f o op out = _
 rw [swp_cons]
 rw [if_neg hn]

/-- What set hands back. -/
def SetPost (has : Int → Int → Bool) (l0 l1 : List S24) (w : World) (e : Ending) (w' : World) : Prop :=
 ∃ v l, e = .returned v ∧ l.Perm (edA 1 0 l0 ++ edA 0 1 l1) ∧ l.Pairwise (fun a b => a.f0 ≤ b.f0) ∧ Kd.R k24 24 w' w.heap.size (fun _ => True) v (swp has l 0 0 false []) ∧ Below w.heap.size w w'

set_option maxHeartbeats 8000000 in
set_option maxRecDepth 100000 in
theorem set_calls (K : Nat) (has : Int → Int → Bool) (hT : TurnsLike K has) (A0 : Option Addr) (c0 : Nat) (l0 : List S24) (A1 : Option Addr) (c1 : Nat) (l1 : List S24) (w : World) (hr0 : Kd.C k24 w A0 l0.length l0) (hr1 : Kd.C k24 w A1 l1.length l1) (h0 : l0.length ≤ 1073741824) (h1 : l1.length ≤ 1073741824) :
  Calls Try.prog 32 #[.agg #[.func (.func K) #[] #[]], .slice A0 l0.length c0, .slice A1 l1.length c1] w (SetPost has l0 l1 w) := by
 have hu24 := Try.underlying24
 have hu45 := Try.underlying45
 have hu56 := Try.underlying56
 have HE := Aside0.mk (fun W hr0 hr1 => edges_calls A0 c0 l0 A1 c1 l1 W hr0 hr1 h0 h1)
 have HR0 := Aside0.mk hr0
 have HR1 := Aside0.mk hr1
 have HT := Aside0.mk hT
 clear hr0 hr1 hT
 go_enter Try.func32, Try.ntmps32
 go_wp2_with (go_at_call 40; refine (HE.out (((((w.alloc (.cells #[.func (.func K) #[] #[]] 45)).alloc (.cells #[.slice none 0 0] 22)).alloc (.cells #[.int .i64 0] 3)).alloc (.cells #[.int .i64 0] 3)).alloc (.cells #[.bool false] 4)) (Kd.C_below HR0.out (below_alloc (below_alloc (below_alloc (below_alloc (below_alloc (Below.refl _ _) _) _) _) _) _)) (Kd.C_below HR1.out (below_alloc (below_alloc (below_alloc (below_alloc (below_alloc (Below.refl _ _) _) _) _) _) _))).mono ?_; rintro e w1 ⟨vl, l, rfl, hp, hs, ho, hb⟩; obtain ⟨Al, cl, hvl⟩ := Kd.R_slice (R56_of ho); subst hvl; have HSW := Aside0.mk ((SwAt.start w K).below hb); have HB := Aside0.mk (below_step (below_alloc (below_alloc (below_alloc (below_alloc (below_alloc (Below.refl w.heap.size w) _) _) _) _) _) hb); have HO : ∃ bl, Aside0 (w1.ownsRow bl 56 3 (.slice Al l.length cl) l.length (cellsE l)) := ⟨_, ⟨ho⟩⟩; have HP := Aside0.mk hp; have HS := Aside0.mk hs; have hln := own_lenE ho; clear hb ho hp hs)
 obtain ⟨bl, HO⟩ := HO
 obtain ⟨r, hr⟩ : ∃ r, r = swp has l 0 0 false [] := ⟨_, rfl⟩
 have HRR := Aside0.mk hr
 clear hr
 go_loopw [21] (fun i wr => SetRel has w w.heap.size (w.heap.size + 1 + 1) (w.heap.size + 1 + 1 + 1) (w.heap.size + 1 + 1 + 1 + 1) (w.heap.size + 1) K bl (.slice Al l.length cl) l r i wr) (fun i _ => l.length - (intOf i).toNat)
 case atStart => exact ⟨0, 0, 0, false, _, [], rfl, by omega, by omega, (fun h => by cases h), by simp, ⟨by simpa using HRR.out⟩, HSW, HO, HB⟩
 case round =>
  obtain ⟨x, f, o, op, v, out, rfl, hx0, hx1, hop, hol, HA, HSWr, HOr, HBr⟩ := hrel
  clear HSW HO HB
  have HC := Aside0.mk (Kd.R_reads' (R56_of HOr.out)).2.2
  have hu1 := HSWr.out.fst.cell
  have hu2 := HSWr.out.fst.frozen
  have hu3 := HSWr.out.oth.cell
  have hu4 := HSWr.out.oth.frozen
  have hlt1 := HSWr.out.fst.lt
  have hlt2 := HSWr.out.oth.lt
  by_cases c4 : x < (l.length : Int)
  ·obtain ⟨ad, e1, hx_0, hx_1, hx_2⟩ := at_T56 HC.out x hx0 c4
   cases e1
   have c4b := decide_eq_true c4
   have hx0b := eq_true hx0
   have c4c := eq_true c4
   have hn1 : w.heap.size + 1 + 1 ≠ wr.heap.size := by omega
   have hn2 : w.heap.size + 1 + 1 + 1 ≠ wr.heap.size := by omega
   go_wp2
   go_region
   go_wp2
   refine wp_named (fun W8 hW8 => ?_)
   have h8 := HSWr.out.count (f1 := wrap64 (f + (rd_T56 l x).f1)) (o1 := wrap64 (o + (rd_T56 l x).f2)) HOr.out (.cells #[.int .i64 (rd_T56 l x).f0, .int .i64 (rd_T56 l x).f1, .int .i64 (rd_T56 l x).f2] 56)
   have S8 : SwAt w.heap.size w.heap.size (w.heap.size + 1 + 1) (w.heap.size + 1 + 1 + 1) (w.heap.size + 1 + 1 + 1 + 1) (w.heap.size + 1) K (wrap64 (f + (rd_T56 l x).f1)) (wrap64 (o + (rd_T56 l x).f2)) op v out W8 := by rw [hW8]; exact h8.1.drew _
   have O8 : W8.ownsRow bl 56 3 (.slice (some ad) l.length cl) l.length (cellsE l) := by rw [hW8]; exact h8.2.1
   have B8 : Below w.heap.size w W8 := by rw [hW8]; exact HBr.out.trans (h8.2.2.trans ⟨rfl, rfl, rfl, Nat.le_refl _, fun _ _ => rfl⟩)
   have e8 : W8.heap[wr.heap.size]? = some (.cells #[.int .i64 (rd_T56 l x).f0, .int .i64 (rd_T56 l x).f1, .int .i64 (rd_T56 l x).f2] 56 (0, 0)) := by
    rw [hW8]
    have h9 := World.alloc_heap_new ((wr.setCell ⟨w.heap.size + 1 + 1, 0, none⟩ (.int .i64 (wrap64 (f + (rd_T56 l x).f1)))).setCell ⟨w.heap.size + 1 + 1 + 1, 0, none⟩ (.int .i64 (wrap64 (o + (rd_T56 l x).f2)))) (.cells #[.int .i64 (rd_T56 l x).f0, .int .i64 (rd_T56 l x).f1, .int .i64 (rd_T56 l x).f2] 56)
    rw [Go.Proofs.Ytebggajdojdebaa.Rng.size_setCell, Go.Proofs.Ytebggajdojdebaa.Rng.size_setCell] at h9
    exact h9
   have ec0 : W8.cell? ⟨wr.heap.size, 0, none⟩ = some (.int .i64 (rd_T56 l x).f0) := by simp only [World.cell?, e8]; rfl
   have hbs : w.heap.size ≤ W8.heap.size := B8.size
   have hol2 : out.length ≤ 1099511627776 := by
    have h9 := HP.out.length_eq
    rw [List.length_append] at h9
    have h10 := edA_len 1 0 l0
    have h11 := edA_len 0 1 l1
    omega
   have hdr := drop_stepS l z56 x hx0 c4
   have HC8 := Aside0.mk (Kd.R_reads' (R56_of O8)).2.2
   have HS8 := Aside0.mk S8
   have HO8 := Aside0.mk O8
   have HB8 := Aside0.mk B8
   have HD := Aside0.mk hdr
   have hlen2 : l.length ≤ 4611686018427387904 := by
    have h9 := HP.out.length_eq
    rw [List.length_append] at h9
    have h10 := edA_len 1 0 l0
    have h11 := edA_len 0 1 l1
    omega
   clear h8 S8 O8 B8 e8 hdr hW8 hx_0 hx_1 hx_2 hu1 hu2 hu3 hu4 hlt1 hlt2 hn1 hn2 HSWr HOr HBr HC
   by_cases c5 : x + 1 = (l.length : Int)
   ·have c5b : (x + 1 == (l.length : Int)) = true := by rw [c5]; exact beq_self_eq_true _
    have HC5 := Aside0.mk c5
    clear c5
    have hwx : IntKind.i64.wrap (x + 1) = x + 1 := IntWalk.i64_in _ (by omega)
    go_quiet (fail)
    clear hwx
    go_wp2_with (go_at_call 39; refine (HT.out _ _ _ _ _ _ _ _ op v out (rd_T56 l x).f0 (W8.drewN nq) (HS8.out.drew nq) hbs hol2 hop).mono ?_; rintro e w9 ⟨rfl, v', S9, T9⟩; have HS9 := Aside0.mk S9; have HT9 := Aside0.mk T9; clear S9 T9)
    go_roundw
    case rel => exact SetRel.turned HA HD (by rw [HC5.out, Int.toNat_natCast, List.drop_length]; rfl) hx0 c4 hop hol HS8 HO8 HB8 HS9 HT9
    case measure => simp [intOf]; omega
   ·have c5b : (x + 1 == (l.length : Int)) = false := beq_eq_false_iff_ne.2 c5
    have c6 : x + 1 < (l.length : Int) := by omega
    have c6b := decide_eq_true c6
    have c6c := eq_true c6
    have hx1b := eq_true (show 0 ≤ x + 1 by omega)
    have hdr2 := drop_stepS l z56 (x + 1) (by omega) c6
    have HD2 := Aside0.mk hdr2
    clear hdr2
    obtain ⟨ad', e1, hy_0, _, _⟩ := at_T56 HC8.out (x + 1) (by omega) c6
    cases e1
    have hwx : IntKind.i64.wrap (x + 1) = x + 1 := IntWalk.i64_in _ (by omega)
    cases hq : ((rd_T56 l (x + 1)).f0 != (rd_T56 l x).f0) with
    | true =>
     have HQ := Aside0.mk hq
     go_quiet (fail)
     clear hwx
     go_wp2_with (go_at_call 39; refine (HT.out _ _ _ _ _ _ _ _ op v out (rd_T56 l x).f0 (W8.drewN nq) (HS8.out.drew nq) hbs hol2 hop).mono ?_; rintro e w9 ⟨rfl, v', S9, T9⟩; have HS9 := Aside0.mk S9; have HT9 := Aside0.mk T9; clear S9 T9)
     go_roundw
     case rel => exact SetRel.turned HA HD (by rw [HD2.out]; exact HQ.out) hx0 c4 hop hol HS8 HO8 HB8 HS9 HT9
     case measure => simp [intOf]; omega
    | false =>
     have HQ := Aside0.mk hq
     go_quiet (fail)
     clear hwx
     go_wp2
     go_roundw
     case rel => exact SetRel.skipped HA HD (by rw [HD2.out]; show ¬ ((rd_T56 l (x + 1)).f0 != (rd_T56 l x).f0) = true; rw [HQ.out]; decide) hx0 c4 hop hol HS8 HO8 HB8
     case measure => simp [intOf]; omega
  ·have hxe : x = (l.length : Int) := by omega
   have h9 := HA.out
   rw [hxe, Int.toNat_natCast, List.drop_length] at h9
   have H9 := Aside0.mk h9
   clear h9 hxe HA
   have c4b := decide_eq_false c4
   have hu5 := HSWr.out.box.cell
   go_wp2
   go_ret
   refine ⟨v, l, rfl, HP.out, HS.out, ?_, HBr.out⟩
   rw [← HRR.out, H9.out]
   exact R24_of HSWr.out.row

/-! ### what a sweep finds -/
def memS (R : List S24) (n : Int) : Bool := R.any fun s => spanHas s n
theorem spanHas_iff (s : S24) (n : Int) : spanHas s n = true ↔ s.f0 ≤ n ∧ n < s.f1 := by
 unfold spanHas
 split <;> simp <;> omega
theorem memS_iff (R : List S24) (n : Int) : memS R n = true ↔ ∃ s ∈ R, s.f0 ≤ n ∧ n < s.f1 := by
 unfold memS
 rw [List.any_eq_true]
 exact ⟨fun ⟨s, h, h2⟩ => ⟨s, h, (spanHas_iff s n).1 h2⟩, fun ⟨s, h, h2⟩ => ⟨s, h, (spanHas_iff s n).2 h2⟩⟩
theorem memS_false (R : List S24) (n : Int) : memS R n = false ↔ ∀ s ∈ R, ¬ (s.f0 ≤ n ∧ n < s.f1) := by
 rw [← Bool.not_eq_true, memS_iff]
 exact ⟨fun h s hs h2 => h ⟨s, hs, h2⟩, fun h ⟨s, hs, h2⟩ => h s hs h2⟩
theorem memS_append (A B : List S24) (n : Int) : memS (A ++ B) n = (memS A n || memS B n) := by simp [memS]
theorem bool_ext {a b : Bool} (h : a = true ↔ b = true) : a = b := by cases a <;> cases b <;> simp_all

/-- A set: spans that are none empty, in order, with something between. -/
structure CanonS (R : List S24) : Prop where
 pos : ∀ s ∈ R, s.f0 < s.f1
 apart : R.Pairwise (fun a b => a.f1 < b.f0)

theorem canonS_tail {a : S24} {A : List S24} (h : CanonS (a :: A)) : CanonS A := ⟨fun s hs => h.pos s (List.mem_cons_of_mem _ hs), (List.pairwise_cons.1 h.apart).2⟩

/-- A set is told by its numbers. -/
theorem canonS_eq : ∀ (A B : List S24), CanonS A → CanonS B → (∀ n, memS A n = memS B n) → A = B
 | [], [], _, _, _ => rfl
 | [], b :: B, _, hB, h => by
  have h1 := h b.f0
  have h2 : memS (b :: B) b.f0 = true := (memS_iff _ _).2 ⟨b, List.mem_cons_self, Int.le_refl _, hB.pos b List.mem_cons_self⟩
  rw [h2] at h1; simp [memS] at h1
 | a :: A, [], hA, _, h => by
  have h1 := h a.f0
  have h2 : memS (a :: A) a.f0 = true := (memS_iff _ _).2 ⟨a, List.mem_cons_self, Int.le_refl _, hA.pos a List.mem_cons_self⟩
  rw [h2] at h1; simp [memS] at h1
 | a :: A, b :: B, hA, hB, h => by
  have pa := hA.pos a List.mem_cons_self
  have pb := hB.pos b List.mem_cons_self
  have la : ∀ s ∈ A, a.f1 < s.f0 := (List.pairwise_cons.1 hA.apart).1
  have lb : ∀ s ∈ B, b.f1 < s.f0 := (List.pairwise_cons.1 hB.apart).1
  have key : ∀ (c d : S24) (C D : List S24), c.f0 < c.f1 → d.f0 < d.f1 → (∀ s ∈ C, c.f1 < s.f0) → (∀ s ∈ D, d.f1 < s.f0) → (∀ n, memS (c :: C) n = memS (d :: D) n) → d.f0 ≤ c.f0 := by
   intro c d C D h1 h2 h3 h4 h5
   have h6 : memS (d :: D) c.f0 = true := by rw [← h5]; exact (memS_iff _ _).2 ⟨c, List.mem_cons_self, Int.le_refl _, h1⟩
   obtain ⟨s, hs, h7, h8⟩ := (memS_iff _ _).1 h6
   rcases List.mem_cons.1 hs with rfl | hs
   ·exact h7
   ·have := h4 s hs; omega
  have e0 : a.f0 = b.f0 := Int.le_antisymm (key b a B A pb pa lb la (fun n => (h n).symm)) (key a b A B pa pb la lb h)
  have key1 : ∀ (c d : S24) (C D : List S24), c.f0 < c.f1 → c.f0 = d.f0 → (∀ s ∈ C, c.f1 < s.f0) → (∀ n, memS (c :: C) n = memS (d :: D) n) → d.f1 ≤ c.f1 := by
   intro c d C D h1 h2 h3 h5
   rcases Int.lt_or_le c.f1 d.f1 with h9 | h9
   ·have h6 : memS (c :: C) c.f1 = true := by rw [h5]; exact (memS_iff _ _).2 ⟨d, List.mem_cons_self, by omega, h9⟩
    obtain ⟨s, hs, h7, h8⟩ := (memS_iff _ _).1 h6
    rcases List.mem_cons.1 hs with rfl | hs
    ·omega
    ·have := h3 s hs; omega
   ·exact h9
  have e1 : a.f1 = b.f1 := Int.le_antisymm (key1 b a B A pb e0.symm lb (fun n => (h n).symm)) (key1 a b A B pa e0 la h)
  have eab : a = b := by cases a; cases b; simp_all
  rw [eab, canonS_eq A B (canonS_tail hA) (canonS_tail hB) (fun n => ?_)]
  rcases Int.lt_or_le a.f1 n with hn | hn
  ·have h1 := h n
   rw [show memS (a :: A) n = (spanHas a n || memS A n) from rfl, show memS (b :: B) n = (spanHas b n || memS B n) from rfl, ← eab] at h1
   have h2 : spanHas a n = false := by rw [← Bool.not_eq_true, spanHas_iff]; omega
   rw [h2, Bool.false_or, Bool.false_or] at h1
   exact h1
  ·have h1 : memS A n = false := (memS_false _ _).2 (fun s hs h2 => by have := la s hs; omega)
   have h2 : memS B n = false := (memS_false _ _).2 (fun s hs h2 => by have := lb s hs; omega)
   rw [h1, h2]

/-- The sweep over the bounds themselves, each once. -/
def sw2 (h : Int → Bool) : List Int → Bool → List S24 → List S24
 | [], _, out => out
 | k :: ks, op, out => sw2 h ks (h k) (turnF (h k) op out k)
/-- What the last bound that is not above n tells. -/
def lev (h : Int → Bool) : List Int → Bool → Int → Bool
 | [], d, _ => d
 | k :: ks, d, n => if n < k then d else lev h ks (h k) n
def fin2 (h : Int → Bool) : List Int → Bool → Bool
 | [], d => d
 | k :: ks, _ => fin2 h ks (h k)
/-- What has been found up to b. -/
def Found (op : Bool) (out : List S24) (b : Int) (c : Int → Bool) : Prop :=
 (op = false ∧ CanonS out ∧ (∀ s ∈ out, s.f1 ≤ b) ∧ ∀ n, n < b → c n = memS out n) ∨
 (op = true ∧ ∃ l x, out = l ++ [x] ∧ CanonS l ∧ (∀ s ∈ l, s.f1 < x.f0) ∧ x.f0 ≤ b ∧ ∀ n, n < b → c n = (memS l n || decide (x.f0 ≤ n)))

theorem canonS_snoc {l : List S24} {x : S24} (h : CanonS l) (h1 : ∀ s ∈ l, s.f1 < x.f0) (h2 : x.f0 < x.f1) : CanonS (l ++ [x]) := by
 refine ⟨fun s hs => ?_, ?_⟩
 ·rcases List.mem_append.1 hs with hs | hs
  ·exact h.pos s hs
  ·rw [List.mem_singleton] at hs; subst hs; exact h2
 ·rw [List.pairwise_append]
  exact ⟨h.apart, List.pairwise_singleton _ _, fun a ha b hb => by rw [List.mem_singleton] at hb; subst hb; exact h1 a ha⟩
theorem memS_below {l : List S24} {b n : Int} (h : ∀ s ∈ l, s.f1 ≤ b) (hn : b ≤ n) : memS l n = false := (memS_false _ _).2 (fun s hs h2 => by have := h s hs; omega)

theorem found_turn {h op : Bool} {out : List S24} {b k : Int} {c : Int → Bool} (hf : Found op out b c) (hb : b < k) : Found h (turnF h op out k) k (fun n => if n < b then c n else op) := by
 rcases hf with ⟨rfl, hc, hl, hm⟩ | ⟨rfl, l, x, rfl, hc, hl, hx, hm⟩
 ·cases h with
  | false =>
   refine .inl ⟨rfl, by unfold turnF; rw [if_pos rfl]; exact hc, by unfold turnF; rw [if_pos rfl]; exact fun s hs => by have := hl s hs; omega, fun n hn => ?_⟩
   unfold turnF; rw [if_pos rfl]
   dsimp only
   split
   ·exact hm n ‹_›
   ·rw [memS_below hl (by omega)]
  | true =>
   refine .inr ⟨rfl, out, ⟨k, 0⟩, by unfold turnF; rw [if_neg (by decide), if_neg (by decide)], hc, fun s hs => by have := hl s hs; dsimp only; omega, Int.le_refl _, fun n hn => ?_⟩
   rw [decide_eq_false (by dsimp only; omega), Bool.or_false]
   dsimp only
   split
   ·exact hm n ‹_›
   ·rw [memS_below hl (by omega)]
 ·cases h with
  | true =>
   refine .inr ⟨rfl, l, x, by unfold turnF; rw [if_pos rfl], hc, hl, by omega, fun n hn => ?_⟩
   dsimp only
   split
   ·exact hm n ‹_›
   ·rw [decide_eq_true (by omega), Bool.or_true]
  | false =>
   have e : turnF false true (l ++ [x]) k = l ++ [⟨x.f0, k⟩] := by
    unfold turnF
    rw [if_neg (by decide), if_pos rfl]
    simp
   rw [e]
   have h2 : CanonS (l ++ [(⟨x.f0, k⟩ : S24)]) := canonS_snoc hc hl (by dsimp only; omega)
   refine .inl ⟨rfl, h2, fun s hs => ?_, fun n hn => ?_⟩
   ·rcases List.mem_append.1 hs with hs | hs
    ·have := hl s hs; omega
    ·rw [List.mem_singleton] at hs; subst hs; exact Int.le_refl _
   ·rw [memS_append]
    have e2 : memS [(⟨x.f0, k⟩ : S24)] n = decide (x.f0 ≤ n) := bool_ext (by rw [memS_iff]; simp; omega)
    rw [e2]
    dsimp only
    split
    ·exact hm n ‹_›
    ·rw [decide_eq_true (by omega), Bool.or_true]

theorem sw2_sem (h : Int → Bool) : ∀ (ks : List Int) (op : Bool) (out : List S24) (b : Int) (c : Int → Bool), ks.Pairwise (· < ·) → (∀ k ∈ ks, b < k) → Found op out b c → fin2 h ks op = false →
  CanonS (sw2 h ks op out) ∧ ∀ n, memS (sw2 h ks op out) n = if n < b then c n else lev h ks op n
 | [], op, out, b, c, _, _, hf, he => by
  have he' : op = false := he
  rcases hf with ⟨_, hc, hl, hm⟩ | ⟨h2, _⟩
  ·refine ⟨hc, fun n => ?_⟩
   show memS out n = _
   split
   ·exact (hm n ‹_›).symm
   ·rw [memS_below hl (by omega)]; exact he'.symm
  ·rw [he'] at h2; cases h2
 | k :: ks, op, out, b, c, hs, hb, hf, he => by
  have hbk := hb k List.mem_cons_self
  obtain ⟨h1, h2⟩ := sw2_sem h ks (h k) (turnF (h k) op out k) k _ (List.pairwise_cons.1 hs).2 (List.pairwise_cons.1 hs).1 (found_turn hf hbk) he
  refine ⟨h1, fun n => ?_⟩
  show memS (sw2 h ks (h k) (turnF (h k) op out k)) n = _
  rw [h2 n]
  simp only [lev]
  by_cases hn : n < k
  ·rw [if_pos hn, if_pos hn]
  ·rw [if_neg hn, if_neg hn, if_neg (by omega)]

def sumI : List Int → Int
 | [] => 0
 | x :: l => x + sumI l
theorem sumI_append : ∀ a b : List Int, sumI (a ++ b) = sumI a + sumI b
 | [], b => by simp [sumI]
 | x :: a, b => by rw [List.cons_append, sumI, sumI, sumI_append a b]; omega
theorem sumI_perm {a b : List Int} (h : a.Perm b) : sumI a = sumI b := by
 induction h with
 | nil => rfl
 | cons x _ ih => simp only [sumI, ih]
 | swap x y l => simp only [sumI]; omega
 | trans _ _ h1 h2 => exact h1.trans h2
theorem sumI_le {a : List Int} (h : ∀ x ∈ a, -1 ≤ x ∧ x ≤ 1) : -(a.length : Int) ≤ sumI a ∧ sumI a ≤ a.length := by
 induction a with
 | nil => simp [sumI]
 | cons x a ih =>
  have := h x List.mem_cons_self
  have := ih (fun y hy => h y (List.mem_cons_of_mem _ hy))
  simp only [sumI, List.length_cons]; omega
/-- The sum of what the bounds up to k add. -/
def sumA (g : S56 → Int) (l : List S56) (k : Int) : Int := sumI (l.map fun e => if e.f0 ≤ k then g e else 0)
theorem sumA_append (g : S56 → Int) (a b : List S56) (k : Int) : sumA g (a ++ b) k = sumA g a k + sumA g b k := by unfold sumA; rw [List.map_append, sumI_append]
theorem sumA_perm {g : S56 → Int} {a b : List S56} (h : a.Perm b) (k : Int) : sumA g a k = sumA g b k := sumI_perm (h.map _)
theorem sumA_all {g : S56 → Int} {a : List S56} {k : Int} (h : ∀ e ∈ a, e.f0 ≤ k) : sumA g a k = sumI (a.map g) := by
 unfold sumA
 congr 1
 exact List.map_congr_left (fun e he => if_pos (h e he))
theorem sumA_none {g : S56 → Int} {a : List S56} {k : Int} (h : ∀ e ∈ a, k < e.f0) : sumA g a k = 0 := by
 induction a with
 | nil => rfl
 | cons e a ih =>
  have := h e List.mem_cons_self
  have := ih (fun x hx => h x (List.mem_cons_of_mem _ hx))
  unfold sumA at this ⊢
  rw [List.map_cons, sumI, if_neg (by omega), this]; rfl

/-- Each bound once. -/
def keysE : List S56 → List Int
 | [] => []
 | e :: r => if endsGrp e.f0 r = true then e.f0 :: keysE r else keysE r

theorem keysE_cons (e : S56) (r : List S56) : keysE (e :: r) = if endsGrp e.f0 r = true then e.f0 :: keysE r else keysE r := rfl
def Asc (l : List S56) : Prop := l.Pairwise (fun a b => a.f0 ≤ b.f0)
theorem keysE_mem : ∀ (r : List S56) (k : Int), k ∈ keysE r → ∃ e ∈ r, e.f0 = k
 | [], k, h => by simp [keysE] at h
 | e :: r, k, h => by
  rw [keysE_cons] at h
  split at h
  ·rcases List.mem_cons.1 h with rfl | h
   ·exact ⟨e, List.mem_cons_self, rfl⟩
   ·obtain ⟨x, hx, hk⟩ := keysE_mem r k h
    exact ⟨x, List.mem_cons_of_mem _ hx, hk⟩
  ·obtain ⟨x, hx, hk⟩ := keysE_mem r k h
   exact ⟨x, List.mem_cons_of_mem _ hx, hk⟩
/-- Where a bound's group ends, all others are above it. -/
theorem asc_above {e : S56} {r : List S56} (h : Asc (e :: r)) (hn : endsGrp e.f0 r = true) : ∀ x ∈ r, e.f0 < x.f0 := by
 intro x hx
 have h1 := List.pairwise_cons.1 h
 cases r with
 | nil => cases hx
 | cons y r =>
  have h2 := h1.1 y List.mem_cons_self
  have h3 : y.f0 ≠ e.f0 := by simpa [endsGrp] using hn
  rcases List.mem_cons.1 hx with rfl | hx
  ·omega
  ·have := (List.pairwise_cons.1 h1.2).1 x hx; omega
theorem keysE_asc : ∀ (r : List S56), Asc r → (keysE r).Pairwise (· < ·)
 | [], _ => List.Pairwise.nil
 | e :: r, h => by
  rw [keysE_cons]
  split
  ·refine List.pairwise_cons.2 ⟨fun k hk => ?_, keysE_asc r (List.pairwise_cons.1 h).2⟩
   obtain ⟨x, hx, rfl⟩ := keysE_mem r k hk
   exact asc_above h ‹_› x hx
  ·exact keysE_asc r (List.pairwise_cons.1 h).2

/-- The rule at the counts of n. -/
def ruleAt (has : Int → Int → Bool) (l : List S56) (n : Int) : Bool := has (sumA S56.f1 l n) (sumA S56.f2 l n)

theorem sumA_at {g : S56 → Int} {p r : List S56} {e : S56} (h : Asc (p ++ e :: r)) (hn : endsGrp e.f0 r = true) : sumA g (p ++ e :: r) e.f0 = sumI (p.map g) + g e := by
 rw [show p ++ e :: r = (p ++ [e]) ++ r by simp, sumA_append, sumA_none (a := r) (asc_above (List.pairwise_append.1 h).2.1 hn), sumA_all, List.map_append, sumI_append]
 ·simp [sumI]
 ·intro x hx
  rcases List.mem_append.1 hx with hx | hx
  ·exact (List.pairwise_append.1 h).2.2 x hx e List.mem_cons_self
  ·rw [List.mem_singleton] at hx; subst hx; exact Int.le_refl _

theorem swp_sw2 (has : Int → Int → Bool) (l : List S56) (hb : ∀ e ∈ l, (-1 ≤ e.f1 ∧ e.f1 ≤ 1) ∧ -1 ≤ e.f2 ∧ e.f2 ≤ 1) (hl : l.length ≤ 1099511627776) : ∀ (r p : List S56) (op : Bool) (out : List S24), l = p ++ r → Asc l →
  swp has r (sumI (p.map S56.f1)) (sumI (p.map S56.f2)) op out = sw2 (ruleAt has l) (keysE r) op out
 | [], p, op, out, _, _ => rfl
 | e :: r, p, op, out, he, ha => by
  have hpl : p.length ≤ l.length := by rw [he]; simp
  have b1 := sumI_le (a := p.map S56.f1) (fun x hx => by obtain ⟨y, hy, rfl⟩ := List.mem_map.1 hx; exact (hb y (by rw [he]; exact List.mem_append_left _ hy)).1)
  have b2 := sumI_le (a := p.map S56.f2) (fun x hx => by obtain ⟨y, hy, rfl⟩ := List.mem_map.1 hx; exact (hb y (by rw [he]; exact List.mem_append_left _ hy)).2)
  have b3 := hb e (by rw [he]; simp)
  rw [List.length_map] at b1 b2
  have w1 : wrap64 (sumI (p.map S56.f1) + e.f1) = sumI (p.map S56.f1) + e.f1 := by unfold wrap64; omega
  have w2 : wrap64 (sumI (p.map S56.f2) + e.f2) = sumI (p.map S56.f2) + e.f2 := by unfold wrap64; omega
  have s1 : sumI ((p ++ [e]).map S56.f1) = sumI (p.map S56.f1) + e.f1 := by rw [List.map_append, sumI_append]; simp [sumI]
  have s2 : sumI ((p ++ [e]).map S56.f2) = sumI (p.map S56.f2) + e.f2 := by rw [List.map_append, sumI_append]; simp [sumI]
  have he2 : l = (p ++ [e]) ++ r := by rw [he]; simp
  rw [swp_cons, keysE_cons]
  rw [w1, w2]
  by_cases hn : endsGrp e.f0 r = true
  ·rw [if_pos hn, if_pos hn]
   have hr : ruleAt has l e.f0 = has (sumI (p.map S56.f1) + e.f1) (sumI (p.map S56.f2) + e.f2) := by
    unfold ruleAt
    rw [he, sumA_at (g := S56.f1) (by rw [← he]; exact ha) hn, sumA_at (g := S56.f2) (by rw [← he]; exact ha) hn]
   rw [sw2, ← hr, ← s1, ← s2]
   exact swp_sw2 has l hb hl r (p ++ [e]) _ _ he2 ha
  ·rw [if_neg hn, if_neg hn, ← s1, ← s2]
   exact swp_sw2 has l hb hl r (p ++ [e]) _ _ he2 ha

theorem lev_rule (has : Int → Int → Bool) (l : List S56) (ha : Asc l) (n : Int) : ∀ (r p : List S56) (d : Bool), l = p ++ r → lev (ruleAt has l) (keysE r) d n = if (r.any fun e => decide (e.f0 ≤ n)) = true then ruleAt has l n else d
 | [], p, d, _ => rfl
 | e :: r, p, d, he => by
  have he2 : l = (p ++ [e]) ++ r := by rw [he]; simp
  have har : Asc (p ++ e :: r) := by rw [← he]; exact ha
  have hcons := List.pairwise_cons.1 (List.pairwise_append.1 har).2.1
  rw [keysE_cons]
  by_cases hn : endsGrp e.f0 r = true
  ·rw [if_pos hn, lev, lev_rule has l ha n r (p ++ [e]) (ruleAt has l e.f0) he2, List.any_cons]
   by_cases h1 : n < e.f0
   ·rw [if_pos h1, if_neg]
    rw [Bool.or_eq_true, decide_eq_true_eq, List.any_eq_true]
    rintro (h2 | ⟨x, hx, h2⟩)
    ·omega
    ·have := hcons.1 x hx; have h3 := of_decide_eq_true h2; omega
   ·rw [if_neg h1, decide_eq_true (show e.f0 ≤ n by omega), Bool.true_or, if_pos rfl]
    by_cases h2 : (r.any fun e => decide (e.f0 ≤ n)) = true
    ·rw [if_pos h2]
    ·rw [if_neg h2]
     have h3 : ∀ x ∈ r, n < x.f0 := fun x hx => by
      rcases Int.lt_or_le n x.f0 with h4 | h4
      ·exact h4
      ·exact absurd (List.any_eq_true.2 ⟨x, hx, decide_eq_true h4⟩) h2
     have key : ∀ g : S56 → Int, sumA g l e.f0 = sumA g l n := fun g => by
      rw [he2, sumA_append g (p ++ [e]) r e.f0, sumA_append g (p ++ [e]) r n, sumA_none h3, sumA_none (asc_above (List.pairwise_append.1 har).2.1 hn), sumA_all, sumA_all]
      ·intro x hx
       rcases List.mem_append.1 hx with hx | hx
       ·have := (List.pairwise_append.1 har).2.2 x hx e List.mem_cons_self; omega
       ·rw [List.mem_singleton] at hx; subst hx; omega
      ·intro x hx
       rcases List.mem_append.1 hx with hx | hx
       ·exact (List.pairwise_append.1 har).2.2 x hx e List.mem_cons_self
       ·rw [List.mem_singleton] at hx; subst hx; exact Int.le_refl _
     unfold ruleAt
     rw [key, key]
  ·rw [if_neg hn, lev_rule has l ha n r (p ++ [e]) d he2, List.any_cons]
   cases r with
   | nil => exact absurd rfl hn
   | cons y r =>
    have hy : y.f0 = e.f0 := by simpa [endsGrp] using hn
    rw [List.any_cons, hy, ← Bool.or_assoc, Bool.or_self]

theorem fin_rule (has : Int → Int → Bool) (l : List S56) (ha : Asc l) (h0 : has (sumI (l.map S56.f1)) (sumI (l.map S56.f2)) = false) : ∀ (r p : List S56) (d : Bool), l = p ++ r → (r = [] → d = false) → fin2 (ruleAt has l) (keysE r) d = false
 | [], _, d, _, hd => hd rfl
 | e :: r, p, d, he, _ => by
  have he2 : l = (p ++ [e]) ++ r := by rw [he]; simp
  rw [keysE_cons]
  by_cases hn : endsGrp e.f0 r = true
  ·rw [if_pos hn, fin2]
   refine fin_rule has l ha h0 r (p ++ [e]) _ he2 (fun hr => ?_)
   subst hr
   unfold ruleAt
   rw [sumA_all, sumA_all]
   ·exact h0
   all_goals
    intro x hx
    rw [he] at hx ha
    rcases List.mem_append.1 hx with hx | hx
    ·exact (List.pairwise_append.1 ha).2.2 x hx e List.mem_cons_self
    ·rw [List.mem_singleton] at hx; subst hx; exact Int.le_refl _
  ·rw [if_neg hn]
   refine fin_rule has l ha h0 r (p ++ [e]) d he2 (fun hr => ?_)
   subst hr; exact absurd rfl hn

/-- How many spans have a number. -/
def cnt (l : List S24) (n : Int) : Int := sumI (l.map fun s => if spanHas s n = true then 1 else 0)
theorem cnt_nonneg (l : List S24) (n : Int) : 0 ≤ cnt l n := by
 unfold cnt
 induction l with
 | nil => simp [sumI]
 | cons s l ih => rw [List.map_cons, sumI]; split <;> omega
theorem cnt_pos (l : List S24) (n : Int) : decide (0 < cnt l n) = memS l n := by
 induction l with
 | nil => rfl
 | cons s l ih =>
  have h0 := cnt_nonneg l n
  have e : cnt (s :: l) n = (if spanHas s n = true then 1 else 0) + cnt l n := rfl
  rw [e, show memS (s :: l) n = (spanHas s n || memS l n) from rfl, ← ih]
  cases spanHas s n with
  | true => rw [if_pos rfl, Bool.true_or, decide_eq_true (by omega)]
  | false => rw [if_neg (by decide), Bool.false_or, Int.zero_add]

theorem edA_cons (x y : Int) (s : S24) (l : List S24) : edA x y (s :: l) = (if s.f0 < s.f1 then [⟨s.f0, x, y⟩, ⟨s.f1, -x, -y⟩] else []) ++ edA x y l := rfl
theorem edA_sum (x y : Int) (g : S56 → Int) (c : Int) (h1 : ∀ a, g ⟨a, x, y⟩ = c) (h2 : ∀ a, g ⟨a, -x, -y⟩ = -c) (n : Int) : ∀ l : List S24, sumA g (edA x y l) n = c * cnt l n
 | [] => by simp [edA, sumA, sumI, cnt]
 | s :: l => by
  have e : cnt (s :: l) n = (if spanHas s n = true then 1 else 0) + cnt l n := rfl
  rw [edA_cons, sumA_append, edA_sum x y g c h1 h2 n l, e, Int.mul_add]
  congr 1
  have hs := spanHas_iff s n
  by_cases h : s.f0 < s.f1
  ·rw [if_pos h]
   simp only [sumA, List.map_cons, List.map_nil, sumI, h1, h2]
   by_cases h3 : spanHas s n = true
   ·have := hs.1 h3
    rw [if_pos h3, if_pos (by omega), if_neg (by omega)]; omega
   ·have h4 : ¬ (s.f0 ≤ n ∧ n < s.f1) := fun h5 => h3 (hs.2 h5)
    rw [if_neg h3]
    by_cases h6 : s.f0 ≤ n
    ·rw [if_pos h6, if_pos (by omega)]; omega
    ·rw [if_neg h6, if_neg (by omega)]; omega
  ·rw [if_neg h, if_neg (fun h3 => by have := hs.1 h3; omega)]
   simp [sumA, sumI]
theorem edA_total (x y : Int) (g : S56 → Int) (c : Int) (h1 : ∀ a, g ⟨a, x, y⟩ = c) (h2 : ∀ a, g ⟨a, -x, -y⟩ = -c) : ∀ l : List S24, sumI ((edA x y l).map g) = 0
 | [] => rfl
 | s :: l => by
  rw [edA_cons, List.map_append, sumI_append, edA_total x y g c h1 h2 l]
  split
  ·simp only [List.map_cons, List.map_nil, sumI, h1, h2]; omega
  ·simp [sumI]
theorem edA_mem (x y : Int) (l : List S24) : ∀ e ∈ edA x y l, (e.f1 = x ∧ e.f2 = y) ∨ (e.f1 = -x ∧ e.f2 = -y) := by
 intro e he
 obtain ⟨s, _, he⟩ := List.mem_flatMap.1 he
 split at he
 ·rcases List.mem_cons.1 he with rfl | he
  ·exact .inl ⟨rfl, rfl⟩
  ·rw [List.mem_singleton] at he; subst he; exact .inr ⟨rfl, rfl⟩
 ·cases he

theorem keysE_has : ∀ (r : List S56) (e : S56), e ∈ r → e.f0 ∈ keysE r
 | [], e, h => by cases h
 | x :: r, e, h => by
  rw [keysE_cons]
  rcases List.mem_cons.1 h with rfl | h
  ·by_cases hn : endsGrp e.f0 r = true
   ·rw [if_pos hn]; exact List.mem_cons_self
   ·rw [if_neg hn]
    cases r with
    | nil => exact absurd rfl hn
    | cons y r =>
     have hy : y.f0 = e.f0 := by simpa [endsGrp] using hn
     rw [← hy]
     exact keysE_has (y :: r) y List.mem_cons_self
  ·split
   ·exact List.mem_cons_of_mem _ (keysE_has r e h)
   ·exact keysE_has r e h

/-- WHAT THE SWEEP FINDS: a set, of the numbers for which the rule holds at how many spans of each list have them. -/
theorem swp_sem (has : Int → Int → Bool) (h00 : has 0 0 = false) (l0 l1 : List S24) (l : List S56) (hp : l.Perm (edA 1 0 l0 ++ edA 0 1 l1)) (hs : Asc l) (hl0 : l0.length ≤ 1073741824) (hl1 : l1.length ≤ 1073741824) :
  CanonS (swp has l 0 0 false []) ∧ ∀ n, memS (swp has l 0 0 false []) n = has (cnt l0 n) (cnt l1 n) := by
 have hll : l.length ≤ 1099511627776 := by
  have h1 := hp.length_eq
  rw [List.length_append] at h1
  have := edA_len 1 0 l0
  have := edA_len 0 1 l1
  omega
 have hb : ∀ e ∈ l, (-1 ≤ e.f1 ∧ e.f1 ≤ 1) ∧ -1 ≤ e.f2 ∧ e.f2 ≤ 1 := by
  intro e he
  rcases List.mem_append.1 (hp.mem_iff.1 he) with he | he
  ·rcases edA_mem _ _ _ e he with ⟨h1, h2⟩ | ⟨h1, h2⟩ <;> omega
  ·rcases edA_mem _ _ _ e he with ⟨h1, h2⟩ | ⟨h1, h2⟩ <;> omega
 have hrule : ∀ n, ruleAt has l n = has (cnt l0 n) (cnt l1 n) := by
  intro n
  unfold ruleAt
  rw [sumA_perm hp, sumA_perm hp, sumA_append, sumA_append, edA_sum 1 0 S56.f1 1 (fun _ => rfl) (fun _ => rfl), edA_sum 0 1 S56.f1 0 (fun _ => rfl) (fun _ => rfl), edA_sum 1 0 S56.f2 0 (fun _ => rfl) (fun _ => rfl), edA_sum 0 1 S56.f2 1 (fun _ => rfl) (fun _ => rfl)]
  congr 1 <;> omega
 have htot : has (sumI (l.map S56.f1)) (sumI (l.map S56.f2)) = false := by
  rw [sumI_perm (hp.map S56.f1), sumI_perm (hp.map S56.f2), List.map_append, List.map_append, sumI_append, sumI_append, edA_total 1 0 S56.f1 1 (fun _ => rfl) (fun _ => rfl), edA_total 0 1 S56.f1 0 (fun _ => rfl) (fun _ => rfl), edA_total 1 0 S56.f2 0 (fun _ => rfl) (fun _ => rfl), edA_total 0 1 S56.f2 1 (fun _ => rfl) (fun _ => rfl)]
  exact h00
 have e := swp_sw2 has l hb hll l [] false [] rfl hs
 rw [show sumI (([] : List S56).map S56.f1) = 0 from rfl, show sumI (([] : List S56).map S56.f2) = 0 from rfl] at e
 rw [e]
 obtain ⟨b, hbk⟩ : ∃ b : Int, ∀ k ∈ keysE l, b < k := by
  generalize keysE l = ks
  induction ks with
  | nil => exact ⟨0, fun _ h => by cases h⟩
  | cons k ks ih =>
   obtain ⟨b, hb⟩ := ih
   refine ⟨min b (k - 1), fun x hx => ?_⟩
   rcases List.mem_cons.1 hx with rfl | hx
   ·omega
   ·have := hb x hx; omega
 obtain ⟨h1, h2⟩ := sw2_sem (ruleAt has l) (keysE l) false [] b (fun _ => false) (keysE_asc l hs) hbk (.inl ⟨rfl, ⟨(fun _ h => by cases h), List.Pairwise.nil⟩, (fun _ h => by cases h), fun _ _ => rfl⟩) (fin_rule has l hs htot l [] false rfl (fun _ => rfl))
 refine ⟨h1, fun n => ?_⟩
 rw [h2 n, lev_rule has l hs n l [] false rfl, hrule n]
 by_cases hk : (l.any fun e => decide (e.f0 ≤ n)) = true
 ·rw [if_pos hk]
  by_cases hnb : n < b
  ·exfalso
   obtain ⟨e, he, h3⟩ := List.any_eq_true.1 hk
   have h3 := of_decide_eq_true h3
   have := hbk _ (keysE_has l e he)
   omega
  ·rw [if_neg hnb]
 ·rw [if_neg hk]
  have h0 : ∀ e ∈ l, n < e.f0 := fun x hx => by
   rcases Int.lt_or_le n x.f0 with h4 | h4
   ·exact h4
   ·exact absurd (List.any_eq_true.2 ⟨x, hx, decide_eq_true h4⟩) hk
  have hz : has (cnt l0 n) (cnt l1 n) = false := by
   rw [← hrule]
   unfold ruleAt
   rw [sumA_none h0, sumA_none h0]; exact h00
  rw [hz]; split <;> rfl

/-! ### the operations -/
def insE (x : S56) : List S56 → List S56
 | [] => [x]
 | y :: l => if x.f0 ≤ y.f0 then x :: y :: l else y :: insE x l
def sortI : List S56 → List S56
 | [] => []
 | x :: l => insE x (sortI l)
theorem insE_perm (x : S56) : ∀ l, (insE x l).Perm (x :: l)
 | [] => List.Perm.refl _
 | y :: l => by
  unfold insE
  split
  ·exact List.Perm.refl _
  ·exact ((insE_perm x l).cons y).trans (List.Perm.swap _ _ _)
theorem sortI_perm : ∀ l, (sortI l).Perm l
 | [] => List.Perm.refl _
 | x :: l => (insE_perm x _).trans ((sortI_perm l).cons x)
theorem insE_asc (x : S56) : ∀ l, Asc l → Asc (insE x l)
 | [], _ => List.pairwise_singleton _ _
 | y :: l, h => by
  have h1 := List.pairwise_cons.1 h
  unfold insE
  split
  ·refine List.pairwise_cons.2 ⟨fun z hz => ?_, h⟩
   rcases List.mem_cons.1 hz with rfl | hz
   ·assumption
   ·have := h1.1 z hz; omega
  ·refine List.pairwise_cons.2 ⟨fun z hz => ?_, insE_asc x l h1.2⟩
   rcases List.mem_cons.1 ((insE_perm x l).mem_iff.1 hz) with rfl | hz
   ·omega
   ·exact h1.1 z hz
theorem sortI_asc : ∀ l, Asc (sortI l)
 | [] => List.Pairwise.nil
 | x :: l => insE_asc x _ (sortI_asc l)

/-- The set of a rule. -/
def setF (has : Int → Int → Bool) (l0 l1 : List S24) : List S24 := swp has (sortI (edA 1 0 l0 ++ edA 0 1 l1)) 0 0 false []
theorem setF_sem (has : Int → Int → Bool) (h00 : has 0 0 = false) (l0 l1 : List S24) (hl0 : l0.length ≤ 1073741824) (hl1 : l1.length ≤ 1073741824) : CanonS (setF has l0 l1) ∧ ∀ n, memS (setF has l0 l1) n = has (cnt l0 n) (cnt l1 n) :=
 swp_sem has h00 l0 l1 _ (sortI_perm _) (sortI_asc _) hl0 hl1
theorem setF_any (has : Int → Int → Bool) (h00 : has 0 0 = false) (l0 l1 : List S24) (l : List S56) (hp : l.Perm (edA 1 0 l0 ++ edA 0 1 l1)) (hs : Asc l) (hl0 : l0.length ≤ 1073741824) (hl1 : l1.length ≤ 1073741824) : swp has l 0 0 false [] = setF has l0 l1 := by
 obtain ⟨h1, h2⟩ := swp_sem has h00 l0 l1 l hp hs hl0 hl1
 obtain ⟨h3, h4⟩ := setF_sem has h00 l0 l1 hl0 hl1
 exact canonS_eq _ _ h1 h3 (fun n => (h2 n).trans (h4 n).symm)

theorem setLike (K : Nat) (has : Int → Int → Bool) (h00 : has 0 0 = false) (hT : TurnsLike K has) (A0 : Option Addr) (c0 : Nat) (l0 : List S24) (A1 : Option Addr) (c1 : Nat) (l1 : List S24) (w : World) (hr0 : Kd.C k24 w A0 l0.length l0) (hr1 : Kd.C k24 w A1 l1.length l1) (h0 : l0.length ≤ 1073741824) (h1 : l1.length ≤ 1073741824) :
  Calls Try.prog 32 #[.agg #[.func (.func K) #[] #[]], .slice A0 l0.length c0, .slice A1 l1.length c1] w fun e w' => ∃ v, e = .returned v ∧ Kd.R k24 24 w' w.heap.size (fun _ => True) v (setF has l0 l1) ∧ Below w.heap.size w w' := by
 refine (set_calls K has hT A0 c0 l0 A1 c1 l1 w hr0 hr1 h0 h1).mono ?_
 rintro e w' ⟨v, l, rfl, hp, hs, hv, hb⟩
 rw [setF_any has h00 l0 l1 l hp hs h0 h1] at hv
 exact ⟨v, rfl, hv, hb⟩

theorem turns38 : TurnsLike 38 hasE := by
 intro base gr gf go gp gt f o op v out a w hs hb hl hn
 by_cases hh : hasE f o = op
 ·rw [show turnF (hasE f o) op out a = out by unfold turnF; rw [if_pos hh], hh]
  exact turn_same38 base gr gf go gp gt f o op v out a w hs hh
 ·cases op with
  | true =>
   have h1 : hasE f o = false := Bool.eq_false_iff.2 hh
   obtain ⟨l, x, rfl⟩ : ∃ l x, out = l ++ [x] := ⟨out.dropLast, out.getLast (hn rfl), (List.dropLast_concat_getLast (hn rfl)).symm⟩
   rw [h1, show turnF false true (l ++ [x]) a = l ++ [⟨x.f0, a⟩] by unfold turnF; rw [if_neg (by decide), if_pos rfl]; simp]
   exact turn_close38 base gr gf go gp gt f o v l x a w hs h1 (by rw [List.length_append] at hl; omega)
  | false =>
   have h1 : hasE f o = true := (by cases hq : hasE f o with | true => rfl | false => exact absurd hq hh)
   rw [h1, show turnF true false out a = out ++ [⟨a, 0⟩] by unfold turnF; rw [if_neg (by decide), if_neg (by decide)]]
   exact turn_open38 base gr gf go gp gt f o v out a w hs h1 hb hl

theorem turns42 : TurnsLike 42 hasB := by
 intro base gr gf go gp gt f o op v out a w hs hb hl hn
 by_cases hh : hasB f o = op
 ·rw [show turnF (hasB f o) op out a = out by unfold turnF; rw [if_pos hh], hh]
  exact turn_same42 base gr gf go gp gt f o op v out a w hs hh
 ·cases op with
  | true =>
   have h1 : hasB f o = false := Bool.eq_false_iff.2 hh
   obtain ⟨l, x, rfl⟩ : ∃ l x, out = l ++ [x] := ⟨out.dropLast, out.getLast (hn rfl), (List.dropLast_concat_getLast (hn rfl)).symm⟩
   rw [h1, show turnF false true (l ++ [x]) a = l ++ [⟨x.f0, a⟩] by unfold turnF; rw [if_neg (by decide), if_pos rfl]; simp]
   exact turn_close42 base gr gf go gp gt f o v l x a w hs h1 (by rw [List.length_append] at hl; omega)
  | false =>
   have h1 : hasB f o = true := (by cases hq : hasB f o with | true => rfl | false => exact absurd hq hh)
   rw [h1, show turnF true false out a = out ++ [⟨a, 0⟩] by unfold turnF; rw [if_neg (by decide), if_neg (by decide)]]
   exact turn_open42 base gr gf go gp gt f o v out a w hs h1 hb hl

theorem turns43 : TurnsLike 43 hasO := by
 intro base gr gf go gp gt f o op v out a w hs hb hl hn
 by_cases hh : hasO f o = op
 ·rw [show turnF (hasO f o) op out a = out by unfold turnF; rw [if_pos hh], hh]
  exact turn_same43 base gr gf go gp gt f o op v out a w hs hh
 ·cases op with
  | true =>
   have h1 : hasO f o = false := Bool.eq_false_iff.2 hh
   obtain ⟨l, x, rfl⟩ : ∃ l x, out = l ++ [x] := ⟨out.dropLast, out.getLast (hn rfl), (List.dropLast_concat_getLast (hn rfl)).symm⟩
   rw [h1, show turnF false true (l ++ [x]) a = l ++ [⟨x.f0, a⟩] by unfold turnF; rw [if_neg (by decide), if_pos rfl]; simp]
   exact turn_close43 base gr gf go gp gt f o v l x a w hs h1 (by rw [List.length_append] at hl; omega)
  | false =>
   have h1 : hasO f o = true := (by cases hq : hasO f o with | true => rfl | false => exact absurd hq hh)
   rw [h1, show turnF true false out a = out ++ [⟨a, 0⟩] by unfold turnF; rw [if_neg (by decide), if_neg (by decide)]]
   exact turn_open43 base gr gf go gp gt f o v out a w hs h1 hb hl

theorem C_nil (w : World) : Kd.C k24 w none ([] : List S24).length ([] : List S24) := (Kd.R_reads' (Kd.R_nil k24 24 w 0 (fun _ => True))).2.2
def span_Norm.f (l0 : List S24) : Option (List S24) := if l0.length ≤ 1073741824 then some (setF hasE l0 []) else none
set_option maxHeartbeats 1000000 in
set_option maxRecDepth 100000 in
theorem span_Norm.calls (A0 : Option Addr) (c0 : Nat) (l0 : List (S24)) (r : List (S24)) (w : World) (hr0 : Kd.C k24 w A0 l0.length l0) (hc0 : l0.length ≤ c0) (h : span_Norm.f l0 = some r) :
  Calls Try.prog 15 #[.slice A0 l0.length c0] w fun e w' => ∃ v0_ : Value, e = .returned (v0_) ∧ Kd.R k24 24 w' w.heap.size (fun _ => True) v0_ r ∧ Below w.heap.size w w' := by
 unfold span_Norm.f at h
 by_cases hl : l0.length ≤ 1073741824
 ·rw [if_pos hl] at h
  obtain rfl := Option.some.inj h
  have HR0 := Aside0.mk hr0
  have HL := Aside0.mk hl
  clear hr0 h hl
  generalize hq : setF hasE l0 [] = q
  have HQ := Aside0.mk hq
  clear hq
  go_enter Try.func15, Try.ntmps15
  go_wp2_with (first | (go_at_call 31; refine (either_calls _).mono ?_; rintro e w1 ⟨rfl, hb1⟩) | (go_at_call 32; refine (setLike 38 hasE rfl turns38 A0 c0 l0 none 0 [] w1 (Kd.C_below HR0.out hb1) (C_nil _) HL.out (Nat.zero_le _)).mono ?_; rintro e w2 ⟨v, rfl, hv, hb2⟩))
  go_ret
  exact ⟨_, rfl, by rw [← HQ.out]; exact Kd.R_lower hv hb1.size, below_step hb1 hb2⟩
 ·rw [if_neg hl] at h; cases h
end

end Go.Proofs.Ytebggajdojdebaa.PS
