/- Plain Lean functions with the answers of the Go functions that this law reaches, and proofs that the calls come to them; written by this session's program. -/
import Derived.Test.YtfhjbhbmbnnimaaVc
import Derived.Test.YtfhjbhbmbnnimaaSh
import Derived.Test.YtfhjbhbmbnnimaaPEx0
import Derived.Test.YtfhjbhbmbnnimaaPEx9
import Derived.Test.YtfhjbhbmbnnimaaPEx11
import Derived.Test.YtfhjbhbmbnnimaaPEx12
import Derived.Test.YtfhjbhbmbnnimaaPEx13
import Derived.Test.YtfhjbhbmbnnimaaPEx14
import Derived.Test.YtfhjbhbmbnnimaaPEx20
import Derived.Sort.Grow
import Derived.Lib.RowBridge
namespace Go.Proofs.Ytfhjbhbmbnnimaa.PE
open Go.RowKit Go.Proofs.YtfhjbhbmbnnimaaW.PrintWords Go.Proofs.YtfhjbhbmbnnimaaW.PrintLast Go.Proofs.YtfhjbhbmbnnimaaW.PrintMore
/-! ### a row of numbers under the shelf's contracts -/
theorem ints_holds {w : World} {base g cap : Nat} {l : List Int} (ho : w.ownsRow base 3 1 (.slice (some ⟨g, 0, none⟩) l.length cap) l.length (encs (Value.int .i64) l)) : Go.Sort.Holds (Value.int .i64) w g 0 l.toArray := by
  intro j hj
  have hj' : j < l.length := by simpa using hj
  have h := own_at_of (d := (0 : Int)) ho (j : Int) (by omega) (by omega)
  rw [Int.toNat_natCast] at h
  rw [Nat.zero_add]
  refine ⟨h.1.trans ?_, h.2⟩
  unfold rdOf
  rw [Int.toNat_natCast, List.getD_eq_getElem?_getD, List.getElem?_eq_getElem hj', getElem!_pos l.toArray j (by simpa using hj')]
  simp
theorem ints_put {w : World} {base g cap n : Nat} {cur : Array Value} (hb : base ≤ g) (hg : w.heap[g]? = some (.cells cur 3 (0, 0))) (hnc : n ≤ cap) (hcm : cap ≤ maxLen) (hcs : cur.size = cap * 1) (d : List Int) (hd : d.length = n) (q : Nat) (os : Array Obj) (m : Nat) (hm : m ≤ n) :
    (Go.Sort.grow (Go.Sort.putRow (Value.int .i64) (Go.Sort.ahead w q) g 0 d.toArray) os).ownsRow base 3 1 (.slice (some ⟨g, 0, none⟩) m cap) m (encs (Value.int .i64) (d.take m)) ∧ w.grownBy (Go.Sort.grow (Go.Sort.putRow (Value.int .i64) (Go.Sort.ahead w q) g 0 d.toArray) os) (some g) := by
  have hgl := (Array.getElem?_eq_some_iff.1 hg).1
  refine ⟨⟨by simp [encs, List.length_take]; omega, .inr ⟨g, cap, Go.Sort.putCells (Value.int .i64) 0 d.toArray cur, rfl, hb, ?_, by omega, hcm, ?_, ?_⟩⟩, ⟨rfl, rfl, rfl, ?_, fun k hk hne => ?_⟩⟩
  · show (w.heap.modify g (Go.Sort.onCells (Go.Sort.putCells (Value.int .i64) 0 d.toArray)) ++ os)[g]? = _
    rw [Array.getElem?_append_left (by rw [Array.size_modify]; exact hgl), Array.getElem?_modify, if_pos rfl, hg]
    rfl
  · unfold Go.Sort.putCells; rw [Array.size_mapIdx]; exact hcs
  · refine List.ext_getElem? fun j => ?_
    rw [List.getElem?_take]
    by_cases hj : j < m * 1
    · have hjn : j < d.length := by omega
      have hj2 : j < cur.size := by omega
      rw [if_pos hj, Array.getElem?_toList]
      unfold Go.Sort.putCells encs
      rw [Array.getElem?_mapIdx, Array.getElem?_eq_getElem hj2, Option.map_some, if_pos ⟨Nat.zero_le _, by simp; omega⟩, Nat.sub_zero, List.getElem?_map, List.getElem?_take, if_pos (by omega), List.getElem?_eq_getElem hjn, getElem!_pos d.toArray j (by simpa using hjn)]
      simp
    · rw [if_neg hj, List.getElem?_eq_none (by simp [encs, List.length_take]; omega)]
  · show w.heap.size ≤ (w.heap.modify g _ ++ os).size
    rw [Array.size_append, Array.size_modify]; omega
  · show (w.heap.modify g _ ++ os)[k]? = _
    rw [Array.getElem?_append_left (by rw [Array.size_modify]; exact hk), Array.getElem?_modify, if_neg (fun e => hne (by rw [e]))]
theorem grow_none (w : World) : Go.Sort.grow w #[] = w := by unfold Go.Sort.grow; rw [Array.append_empty]
/-- The kept of a list are those of the list. -/
theorem compactUpTo_mem (l : List Int) : ∀ m, m ≤ l.length → ∀ x, x ∈ Go.Lib.compactUpTo l.toArray m ↔ x ∈ l.take m
  | 0, _, x => by simp [Go.Lib.compactUpTo]
  | m + 1, h, x => by
    have hm : m < l.length := by omega
    have e : l.toArray[m]! = l[m] := by rw [getElem!_pos l.toArray m (by simpa using hm)]; simp
    rw [Go.Lib.compactUpTo_succ, List.take_succ_eq_append_getElem hm, List.mem_append, List.mem_append, compactUpTo_mem l m (by omega) x, e]
    by_cases hk : Go.Lib.keeps l.toArray m = true
    · rw [if_pos hk]
    · rw [if_neg hk]
      constructor
      · rintro (h | h)
        · exact .inl h
        · cases h
      · rintro (h | h)
        · exact .inl h
        · refine .inl ?_
          rw [List.mem_singleton.1 h]
          have hk' : ¬ (m = 0 ∨ l.toArray[m]! ≠ l.toArray[m - 1]!) := fun c => hk (decide_eq_true c)
          have h0 : m ≠ 0 := fun c => hk' (.inl c)
          have h1 : l.toArray[m]! = l.toArray[m - 1]! := Decidable.of_not_not fun c => hk' (.inr c)
          rw [e, getElem!_pos l.toArray (m - 1) (by simp; omega)] at h1
          rw [h1, List.mem_take_iff_getElem]
          exact ⟨m - 1, by omega, by simp⟩
theorem compact_mem (l : List Int) (x : Int) : x ∈ Go.Lib.compact l ↔ x ∈ l := by
  have := compactUpTo_mem l l.length (Nat.le_refl _) x
  rwa [List.take_length] at this

theorem compI_calls {w0 : World} {base : Nat} {ok : Nat → Prop} {v : Value} {l : List Int} {w : World} (h : Kd.R (Kd.int .i64) 3 w base ok v l) (hB : Below base w0 w) (hbase : base ≤ w.heap.size) (hl : l.length ≤ 1099511627776) :
    Calls Try.prog 51 #[v] w fun e w' => ∃ v1, e = .returned v1 ∧ Kd.R (Kd.int .i64) 3 w' base ok v1 (Go.Lib.compact l) ∧ Below base w0 w' := by
  have ho := Kd.own_of_R h
  have hc := Go.Lib.compact_length_le l
  rcases ho.2 with ⟨rfl, hn⟩ | ⟨g, cap, cur, rfl, hb, hg, hnc, hcm, hcs, htake⟩
  · have hl0 : l = [] := List.length_eq_zero_iff.1 hn
    subst hl0
    refine (AnyG.slices_Compact_int_empty Try.compI none 0 w).mono ?_
    rintro e w' ⟨rfl, rfl⟩
    exact ⟨_, rfl, h, hB⟩
  · refine (AnyG.slices_Compact_int Try.compI g 0 cap l w (ints_holds ho) (by omega) hnc).mono ?_
    rintro e w' ⟨rfl, q, rfl⟩
    have hd : (Go.Lib.compact l ++ List.replicate (l.length - (Go.Lib.compact l).length) 0).length = l.length := by rw [List.length_append, List.length_replicate]; omega
    obtain ⟨h1, h2⟩ := ints_put hb hg hnc hcm hcs _ hd q #[] (Go.Lib.compact l).length hc
    rw [grow_none, List.take_left] at h1
    rw [grow_none] at h2
    exact ⟨_, rfl, Kd.R_of_own h1 (fun k hk => h.1 k hk), hB.grown h2 hbase (fun k hk => by obtain rfl := Option.some.inj hk; exact hb)⟩
theorem sortI_calls {w0 : World} {base : Nat} {ok : Nat → Prop} {v : Value} {l : List Int} {w : World} (h : Kd.R (Kd.int .i64) 3 w base ok v l) (hB : Below base w0 w) (hbase : base ≤ w.heap.size) (hl : l.length ≤ 1099511627776) :
    Calls Try.prog 50 #[v] w fun e w' => e = .returned (.tuple #[]) ∧ Kd.R (Kd.int .i64) 3 w' base ok v (l.mergeSort fun x y => decide (x ≤ y)) ∧ Below base w0 w' ∧ w.heap.size ≤ w'.heap.size := by
  have ho := Kd.own_of_R h
  have hm : (l.mergeSort fun x y => decide (x ≤ y)).length = l.length := List.length_mergeSort l
  rcases ho.2 with ⟨rfl, hn⟩ | ⟨g, cap, cur, rfl, hb, hg, hnc, hcm, hcs, htake⟩
  · have hl0 : l = [] := List.length_eq_zero_iff.1 hn
    subst hl0
    refine (AnyM.slices_Sort_int_none Try.sortI none 0 w).mono ?_
    rintro e w' ⟨rfl, rfl⟩
    exact ⟨rfl, by rw [List.mergeSort_nil]; exact h, hB, Nat.le_refl _⟩
  · refine (AnyM.slices_Sort_int Try.sortI g 0 cap l w (ints_holds ho) (Array.getElem?_eq_some_iff.1 hg).1 (by omega)).mono ?_
    rintro e w' ⟨rfl, q, os, rfl⟩
    obtain ⟨h1, h2⟩ := ints_put hb hg hnc hcm hcs _ hm q os l.length (Nat.le_refl _)
    rw [List.take_of_length_le (by omega)] at h1
    refine ⟨rfl, Kd.R_of_own (by rw [hm]; exact h1) (fun k hk => h.1 k hk), hB.grown h2 hbase (fun k hk => by obtain rfl := Option.some.inj hk; exact hb), h2.size⟩
theorem heap58 : Kd.Heap k58 := ⟨fun _ h => h⟩
/-- What Used finds. -/
def usedIds (l : List S58) : List Int := (l.filter fun p => decide (p.f0 > 0)).map S58.f0
def extent_Used.f (l0 : List S58) : Option (List Int) := if l0.length ≤ 1099511627776 then some (Go.Lib.compact ((usedIds l0).mergeSort fun x y => decide (x ≤ y))) else none
theorem usedFold (l0 : List S58) (hl : l0.length ≤ 1099511627776) : ∀ (d : Nat) (i : Int) (o : List Int), 0 ≤ i → i ≤ l0.length → (l0.length : Int) - i = d → (o.length : Int) ≤ i → ∀ k, d < k → api_Piece_int_48.l0 k o l0 (l0.length : Int) i = some (o ++ usedIds (l0.drop i.toNat)) := by
  intro d
  induction d with
  | zero =>
    intro i o h0 h1 hd ho k hk
    obtain ⟨k, rfl⟩ : ∃ m, k = m + 1 := ⟨k - 1, by omega⟩
    simp only [api_Piece_int_48.l0]
    rw [if_neg (by omega), List.drop_of_length_le (by omega)]
    simp [usedIds]
  | succ d ih =>
    intro i o h0 h1 hd ho k hk
    obtain ⟨k, rfl⟩ : ∃ m, k = m + 1 := ⟨k - 1, by omega⟩
    have hw : wrap64 (i + 1) = i + 1 := by unfold wrap64; omega
    simp only [api_Piece_int_48.l0, hw]
    rw [if_pos (by omega), if_pos h0, if_pos (by omega), drop_stepI l0 z58 i h0 (by omega)]
    have hr : l0.getD i.toNat z58 = rd_T58 l0 i := rfl
    rw [hr]
    unfold extent_Used_1.f
    by_cases g : (rd_T58 l0 i).f0 > 0
    · rw [if_pos g, if_pos (by omega), Option.bind_some, ih (i + 1) _ (by omega) (by omega) (by omega) (by rw [List.length_append, List.length_singleton]; omega) k (by omega)]
      unfold usedIds
      rw [List.filter_cons_of_pos (by simpa using g), List.map_cons, List.append_assoc]; rfl
    · rw [if_neg g, Option.bind_some, ih (i + 1) _ (by omega) (by omega) (by omega) (by omega) k (by omega)]
      unfold usedIds
      rw [List.filter_cons_of_neg (by simpa using g)]
theorem usedIds_len (l : List S58) : (usedIds l).length ≤ l.length := by unfold usedIds; rw [List.length_map]; exact List.length_filter_le _ _
theorem extent_Used.calls (A0 : Option Addr) (c0 : Nat) (l0 : List (S58)) (r : List Int) (w : World) (hr0 : Kd.C k58 w A0 l0.length l0) (hc0 : l0.length ≤ c0) (h : extent_Used.f l0 = some r) :
    Calls Try.prog 31 #[.slice A0 l0.length c0] w fun e w' => ∃ v0_ : Value, e = .returned (v0_) ∧ Kd.R (Kd.int .i64) 3 w' w.heap.size (fun _ => True) v0_ r ∧ Below w.heap.size w w' := by
  unfold extent_Used.f at h
  by_cases hl : l0.length ≤ 1099511627776
  · rw [if_pos hl] at h
    have H := Aside0.mk (Option.some.inj h)
    have HL := Aside0.mk hl
    have HR0 := Aside0.mk hr0
    have hu := usedIds_len l0
    have HU := Aside0.mk hu
    have hf := usedFold l0 hl l0.length 0 [] (by omega) (by omega) (by omega) (by simp) (l0.length + 1) (by omega)
    rw [Int.toNat_zero, List.drop_zero, List.nil_append] at hf
    have HF := Aside0.mk hf
    clear h hl hr0 hf hu
    go_enter Try.func31, Try.ntmps31
    go_wp2_with (first
      | (go_at_call 48; (refine (api_Piece_int_48.calls (l0.length + 1) A0 c0 l0 (fun _ => False) (.slice none 0 0) [] (usedIds l0) w _ (Below.refl _ _) (Kd.C_kept_came heap58 HR0.out (Below.refl _ _) (fun _ hk => hk.elim)) hc0 (Kd.R_nil _ _ _ _ _) HF.out).mono ?_); rintro e w1 ⟨v0, rfl, hr1, hb1, _⟩; have HR1 := Aside0.mk (Kd.R_mono (ok' := fun _ => True) hr1 (fun _ _ => trivial)); have HB1 := Aside0.mk hb1; clear hr1 hb1)
      | (go_at_call 50; (refine (sortI_calls HR1.out HB1.out HB1.out.size (by have := HU.out; have := HL.out; omega)).mono ?_); rintro e w2 ⟨rfl, hr2, hb2, hs2⟩; have HR2 := Aside0.mk hr2; have HB2 := Aside0.mk hb2; clear hr2 hb2 hs2)
      | (go_at_call 51; (refine (compI_calls HR2.out HB2.out HB2.out.size (by rw [List.length_mergeSort]; have := HU.out; have := HL.out; omega)).mono ?_); rintro e w3 ⟨v3, rfl, hr3, hb3⟩; have HR3 := Aside0.mk hr3; have HB3 := Aside0.mk hb3; clear hr3 hb3))
    go_ret
    exact ⟨_, rfl, by rw [← H.out]; exact HR3.out, HB3.out⟩
  · rw [if_neg hl] at h; cases h
set_option linter.unusedVariables false
set_option linter.unusedSimpArgs false
attribute [local go_sem] max2_int min2_int max_two min_two max_three min_three max_four min_four   -- for this text's walks alone
/-! ### r08_Has: function 30 -/
def r08_Has.l0 : Nat → List Int → Int → Int → Option (Bool)
 | 0, _, _, _ => none
 | k + 1, x0, x1, x5 => if x5 < (x0.length : Int) then (if 0 ≤ x5 then (if (rd x0 x5) = x1 then (some true) else (r08_Has.l0 k x0 x1 (wrap64 (x5 + 1)))) else (none)) else (some false)
def r08_Has.f (k : Nat) (l0 : List Int) (a1 : Int) : Option (Bool) := r08_Has.l0 k l0 a1 0
theorem r08_Has.mono_l : ∀ k, (∀ y0 y1 y2, LeO (r08_Has.l0 k y0 y1 y2) (r08_Has.l0 (k + 1) y0 y1 y2))
 | 0 => fun _ _ _ r h => by simp [r08_Has.l0] at h
 | k + 1 => by
  have ih0 := r08_Has.mono_l k
  ·intro y0 y1 y2
   unfold r08_Has.l0
   repeat' first
   | (with_reducible exact ih0 _ _ _)
   | (with_reducible exact LeO.refl _)
   | (with_reducible exact LeO.none _)
   | (with_reducible refine LeO.ite ?_ ?_)
   | (with_reducible refine LeO.bind ?_ (fun _ => ?_))
   | exact ih0 _ _ _
   | exact LeO.none _
   | refine LeO.ite ?_ ?_
   | refine LeO.bind ?_ (fun _ => ?_)
theorem r08_Has.mono : ∀ a0 a1 k, LeO (r08_Has.f k a0 a1) (r08_Has.f (k + 1) a0 a1) := by
 intro a0 a1 k
 have ih0 := r08_Has.mono_l k
 unfold r08_Has.f
 repeat' first
   | (with_reducible exact ih0 _ _ _)
   | (with_reducible exact LeO.refl _)
   | (with_reducible exact LeO.none _)
   | (with_reducible refine LeO.ite ?_ ?_)
   | (with_reducible refine LeO.bind ?_ (fun _ => ?_))
   | exact ih0 _ _ _
   | exact LeO.none _
   | refine LeO.ite ?_ ?_
   | refine LeO.bind ?_ (fun _ => ?_)
set_option maxHeartbeats 8000000 in
set_option maxRecDepth 100000 in
theorem r08_Has.calls (k : Nat) (A0 : Option Addr) (c0 : Nat) (l0 : List Int) (a1 : Int) (r : Bool) (w : World) (hr0 : Kd.C (Kd.int .i64) w A0 l0.length l0) (hc0 : l0.length ≤ c0) (h : r08_Has.f k l0 a1 = some r) :
  Calls Try.prog 30 #[.slice A0 l0.length c0, .int .i64 a1] w fun e w' => e = .returned (.bool r) ∧ Drawn0 w w' := by
 have HR0 := Aside0.mk hr0
 have HC0 := Aside0.mk hc0
 clear hr0 hc0
 have H : (r08_Has.l0 k l0 a1 0) = some r := h
 clear h
 have H' := Aside0.mk H
 clear H
 go_enter Try.func30, Try.ntmps30
 go_wp2
 go_loopg [5] k (fun kq v5 w' => ∃ (x5_1 : Int), v5 = .int .i64 x5_1 ∧ Aside0 (r08_Has.l0 kq l0 a1 x5_1 = some r) ∧ Aside0 (kq ≤ k) ∧ Drawn0 w w')
 case atStart => exact ⟨(0), (by first | rfl | (simp; done) | (simp [*]; done)), H', ⟨Nat.le_refl _⟩, by repeat (first | exact Drawn0.refl _ | apply Drawn0.step)⟩
 case round =>
  clear H'
  try clear p2
  obtain ⟨x5_1, rfl, HA, HK1, ⟨m1, rfl⟩⟩ := hrel
  cases gk with
  | zero => exact absurd HA.out (by simp [r08_Has.l0])
  | succ k1 =>
   have H := HA.out
   clear HA
   simp only [r08_Has.l0] at H
   by_cases c3 : x5_1 < (l0.length : Int)
   ·rw [if_pos c3] at H
    have c3b0 : decide (x5_1 < (l0.length : Int)) = true := decide_eq_true c3
    clear c3
    by_cases c4 : 0 ≤ x5_1
    ·rw [if_pos c4] at H
     have c4b0 : decide (0 ≤ x5_1) = true := decide_eq_true c4
     clear c4
     by_cases c5 : (rd l0 x5_1) = a1
     ·rw [if_pos c5] at H
      have c5b0 : ((rd l0 x5_1) == a1) = true := beq_iff_eq.mpr c5
      have c5b1 : ((rd l0 x5_1) != a1) = false := bne_eq_false_iff_eq.mpr c5
      clear c5
      obtain rfl := Option.some.inj H
      have p424 : 0 ≤ (x5_1 : Int) := of_decide_eq_true (by first | (with_reducible assumption) | assumption)
      have q424 : x5_1 < (l0.length : Int) := of_decide_eq_true (by first | (with_reducible assumption) | assumption)
      obtain ⟨ad424, e424, hx424_0⟩ := Kd.at_int HR0.out x5_1 p424 q424
      cases e424
      replace p424 := eq_true p424
      replace q424 := eq_true q424
      go_wp2
      go_ret
      exact ⟨by first | rfl | (simp; done) | (simp [*]; done), by repeat (first | exact Drawn0.refl _ | apply Drawn0.step)⟩
     ·rw [if_neg c5] at H
      have c5b0 : ((rd l0 x5_1) == a1) = false := beq_eq_false_iff_ne.mpr c5
      have c5b1 : ((rd l0 x5_1) != a1) = true := bne_iff_ne.mpr c5
      have H' := Aside0.mk H
      clear H
      have p424 : 0 ≤ (x5_1 : Int) := of_decide_eq_true (by first | (with_reducible assumption) | assumption)
      have q424 : x5_1 < (l0.length : Int) := of_decide_eq_true (by first | (with_reducible assumption) | assumption)
      obtain ⟨ad424, e424, hx424_0⟩ := Kd.at_int HR0.out x5_1 p424 q424
      cases e424
      replace p424 := eq_true p424
      replace q424 := eq_true q424
      go_wp2
      go_roundg k1
      case measure => have := HK1.out; omega
      case rel => exact ⟨(wrap64 (x5_1 + 1)), (by first | rfl | (simp; done) | (simp [*]; done)), H', ⟨by have := HK1.out; omega⟩, by repeat (first | exact Drawn0.refl _ | apply Drawn0.step)⟩
    ·rw [if_neg c4] at H
     exact absurd H (by simp)
   ·rw [if_neg c3] at H
    have c3b0 : decide (x5_1 < (l0.length : Int)) = false := decide_eq_false c3
    clear c3
    obtain rfl := Option.some.inj H
    go_wp2
    go_ret
    exact ⟨by first | rfl | (simp; done) | (simp [*]; done), by repeat (first | exact Drawn0.refl _ | apply Drawn0.step)⟩

/-! ### l08_ExtentErases: function 9 -/
mutual
def l08_ExtentErases.j0 : Nat → List Int → Bool → List (S58) → List (S58) → Bool → Option (Bool)
  | 0, _, _, _, _, _ => none
  | k + 1, x1, x5, x6, x7, x33 => if x33 = true then (some false) else ((r08_Each.f k x6).bind fun t257 => ((r08_Each.f k x7).bind fun t260 => (if (t260.length : Int) = (t257.length : Int) then (l08_ExtentErases.l0 k x1 x5 x6 x7 t257 t260 0) else (some false))))
def l08_ExtentErases.l0 : Nat → List Int → Bool → List (S58) → List (S58) → List (S32) → List (S32) → Int → Option (Bool)
  | 0, _, _, _, _, _, _, _ => none
  | k + 1, x1, x5, x6, x7, x8, x9, x10 => if x10 < (x8.length : Int) then (if 0 ≤ x10 then (if ((rd_T32 x8 x10).f0) > 0 then ((r08_Has.f k x1 ((rd_T32 x8 x10).f0)).bind fun t265 => (l08_ExtentErases.j2 k x1 x5 x6 x7 x8 x9 x10 t265 ((rd_T32 x8 x10).f0) ((rd_T32 x8 x10).f1))) else (l08_ExtentErases.j2 k x1 x5 x6 x7 x8 x9 x10 false ((rd_T32 x8 x10).f0) ((rd_T32 x8 x10).f1))) else (none)) else ((extent_Used.f x6).bind fun t268 => ((extent_Used.f x7).bind fun t271 => (l08_ExtentErases.l1 k x1 x5 x7 t268 t271 1)))
def l08_ExtentErases.j2 : Nat → List Int → Bool → List (S58) → List (S58) → List (S32) → List (S32) → Int → Bool → Int → Int → Option (Bool)
  | 0, _, _, _, _, _, _, _, _, _, _ => none
  | k + 1, x1, x5, x6, x7, x8, x9, x10, x61, x265000, x265001 => if x61 = true then (if 0 ≤ x10 then (if x10 < (x9.length : Int) then (if (!(((rd_T32 x9 x10).f0) == (-1)) || (!(((rd_T32 x9 x10).f1) == 0))) = true then (some false) else (l08_ExtentErases.l0 k x1 x5 x6 x7 x8 x9 (wrap64 (x10 + 1)))) else (none)) else (none)) else (if 0 ≤ x10 then (if x10 < (x9.length : Int) then (if (!(((rd_T32 x9 x10).f0) == x265000) || (!(((rd_T32 x9 x10).f1) == x265001))) = true then (some false) else (l08_ExtentErases.l0 k x1 x5 x6 x7 x8 x9 (wrap64 (x10 + 1)))) else (none)) else (none))
def l08_ExtentErases.l1 : Nat → List Int → Bool → List (S58) → List Int → List Int → Int → Option (Bool)
  | 0, _, _, _, _, _, _ => none
  | k + 1, x1, x5, x7, x12, x13, x14 => if x14 < 6 then ((r08_Has.f k x13 x14).bind fun t274 => ((r08_Has.f k x12 x14).bind fun t275 => (if t275 = true then ((r08_Has.f k x1 x14).bind fun t276 => (if (t274 != (!t276)) = true then (some false) else (l08_ExtentErases.l1 k x1 x5 x7 x12 x13 (wrap64 (x14 + 1))))) else (if (t274 != false) = true then (some false) else (l08_ExtentErases.l1 k x1 x5 x7 x12 x13 (wrap64 (x14 + 1))))))) else (l08_ExtentErases.l2 k x1 x5 x7 x13 0)
def l08_ExtentErases.l2 : Nat → List Int → Bool → List (S58) → List Int → Int → Option (Bool)
  | 0, _, _, _, _, _ => none
  | k + 1, x1, x5, x7, x13, x15 => if x15 < (x13.length : Int) then (if 0 ≤ x15 then (if (rd x13 x15) < 1 then (some false) else (if (rd x13 x15) > 4 then (some false) else (if x15 > 0 then (if 0 ≤ (wrap64 (x15 - 1)) then (if (wrap64 (x15 - 1)) < (x13.length : Int) then (if (rd x13 (wrap64 (x15 - 1))) ≥ (rd x13 x15) then (some false) else (l08_ExtentErases.l2 k x1 x5 x7 x13 (wrap64 (x15 + 1)))) else (none)) else (none)) else (l08_ExtentErases.l2 k x1 x5 x7 x13 (wrap64 (x15 + 1)))))) else (none)) else ((extent_Erase.f x7 x1).bind fun t281 => ((r08_Same.f k t281 x7).bind fun t284 => (if t284 = true then (some x5) else (some false))))
end
def l08_ExtentErases.f (k : Nat) (l0 : List (S37)) (l1 : List Int) : Option (Bool) := (l08_sanity.f).bind fun t248 => (if (l1.length : Int) > 6 then (some t248) else ((r08_Made.f k l0).bind fun t249 => ((extent_Erase.f t249 l1).bind fun t252 => ((r08_Valid.f k t252).bind fun t255 => (if t255 = true then ((r08_Size.f k t252).bind fun t256 => (l08_ExtentErases.j0 k l1 t248 t249 t252 (decide (t256 > 72)))) else (l08_ExtentErases.j0 k l1 t248 t249 t252 true))))))
theorem l08_ExtentErases.mono_l : ∀ k, (∀ y0 y1 y2 y3 y4, LeO (l08_ExtentErases.j0 k y0 y1 y2 y3 y4) (l08_ExtentErases.j0 (k + 1) y0 y1 y2 y3 y4)) ∧ (∀ y0 y1 y2 y3 y4 y5 y6, LeO (l08_ExtentErases.l0 k y0 y1 y2 y3 y4 y5 y6) (l08_ExtentErases.l0 (k + 1) y0 y1 y2 y3 y4 y5 y6)) ∧ (∀ y0 y1 y2 y3 y4 y5 y6 y7 y8 y9, LeO (l08_ExtentErases.j2 k y0 y1 y2 y3 y4 y5 y6 y7 y8 y9) (l08_ExtentErases.j2 (k + 1) y0 y1 y2 y3 y4 y5 y6 y7 y8 y9)) ∧ (∀ y0 y1 y2 y3 y4 y5, LeO (l08_ExtentErases.l1 k y0 y1 y2 y3 y4 y5) (l08_ExtentErases.l1 (k + 1) y0 y1 y2 y3 y4 y5)) ∧ (∀ y0 y1 y2 y3 y4, LeO (l08_ExtentErases.l2 k y0 y1 y2 y3 y4) (l08_ExtentErases.l2 (k + 1) y0 y1 y2 y3 y4))
  | 0 => ⟨fun _ _ _ _ _ r h => by simp [l08_ExtentErases.j0] at h, fun _ _ _ _ _ _ _ r h => by simp [l08_ExtentErases.l0] at h, fun _ _ _ _ _ _ _ _ _ _ r h => by simp [l08_ExtentErases.j2] at h, fun _ _ _ _ _ _ r h => by simp [l08_ExtentErases.l1] at h, fun _ _ _ _ _ r h => by simp [l08_ExtentErases.l2] at h⟩
  | k + 1 => by
    obtain ⟨ih0, ih1, ih2, ih3, ih4⟩ := l08_ExtentErases.mono_l k
    refine ⟨?_, ?_, ?_, ?_, ?_⟩
    · intro y0 y1 y2 y3 y4
      unfold l08_ExtentErases.j0
      repeat' first
      | (with_reducible exact ih0 _ _ _ _ _)
      | (with_reducible exact ih1 _ _ _ _ _ _ _)
      | (with_reducible exact ih2 _ _ _ _ _ _ _ _ _ _)
      | (with_reducible exact ih3 _ _ _ _ _ _)
      | (with_reducible exact ih4 _ _ _ _ _)
      | (with_reducible exact r08_Each.mono _ _)
      | (with_reducible exact r08_Has.mono _ _ _)
      | (with_reducible exact r08_Made.mono _ _)
      | (with_reducible exact r08_Same.mono _ _ _)
      | (with_reducible exact r08_Size.mono _ _)
      | (with_reducible exact r08_Valid.mono _ _)
      | (with_reducible exact LeO.refl _)
      | (with_reducible exact LeO.none _)
      | (with_reducible refine LeO.ite ?_ ?_)
      | (with_reducible refine LeO.bind ?_ (fun _ => ?_))
      | exact ih0 _ _ _ _ _
      | exact ih1 _ _ _ _ _ _ _
      | exact ih2 _ _ _ _ _ _ _ _ _ _
      | exact ih3 _ _ _ _ _ _
      | exact ih4 _ _ _ _ _
      | exact r08_Each.mono _ _
      | exact r08_Has.mono _ _ _
      | exact r08_Made.mono _ _
      | exact r08_Same.mono _ _ _
      | exact r08_Size.mono _ _
      | exact r08_Valid.mono _ _
      | exact LeO.none _
      | refine LeO.ite ?_ ?_
      | refine LeO.bind ?_ (fun _ => ?_)
    · intro y0 y1 y2 y3 y4 y5 y6
      unfold l08_ExtentErases.l0
      repeat' first
      | (with_reducible exact ih0 _ _ _ _ _)
      | (with_reducible exact ih1 _ _ _ _ _ _ _)
      | (with_reducible exact ih2 _ _ _ _ _ _ _ _ _ _)
      | (with_reducible exact ih3 _ _ _ _ _ _)
      | (with_reducible exact ih4 _ _ _ _ _)
      | (with_reducible exact r08_Each.mono _ _)
      | (with_reducible exact r08_Has.mono _ _ _)
      | (with_reducible exact r08_Made.mono _ _)
      | (with_reducible exact r08_Same.mono _ _ _)
      | (with_reducible exact r08_Size.mono _ _)
      | (with_reducible exact r08_Valid.mono _ _)
      | (with_reducible exact LeO.refl _)
      | (with_reducible exact LeO.none _)
      | (with_reducible refine LeO.ite ?_ ?_)
      | (with_reducible refine LeO.bind ?_ (fun _ => ?_))
      | exact ih0 _ _ _ _ _
      | exact ih1 _ _ _ _ _ _ _
      | exact ih2 _ _ _ _ _ _ _ _ _ _
      | exact ih3 _ _ _ _ _ _
      | exact ih4 _ _ _ _ _
      | exact r08_Each.mono _ _
      | exact r08_Has.mono _ _ _
      | exact r08_Made.mono _ _
      | exact r08_Same.mono _ _ _
      | exact r08_Size.mono _ _
      | exact r08_Valid.mono _ _
      | exact LeO.none _
      | refine LeO.ite ?_ ?_
      | refine LeO.bind ?_ (fun _ => ?_)
    · intro y0 y1 y2 y3 y4 y5 y6 y7 y8 y9
      unfold l08_ExtentErases.j2
      repeat' first
      | (with_reducible exact ih0 _ _ _ _ _)
      | (with_reducible exact ih1 _ _ _ _ _ _ _)
      | (with_reducible exact ih2 _ _ _ _ _ _ _ _ _ _)
      | (with_reducible exact ih3 _ _ _ _ _ _)
      | (with_reducible exact ih4 _ _ _ _ _)
      | (with_reducible exact r08_Each.mono _ _)
      | (with_reducible exact r08_Has.mono _ _ _)
      | (with_reducible exact r08_Made.mono _ _)
      | (with_reducible exact r08_Same.mono _ _ _)
      | (with_reducible exact r08_Size.mono _ _)
      | (with_reducible exact r08_Valid.mono _ _)
      | (with_reducible exact LeO.refl _)
      | (with_reducible exact LeO.none _)
      | (with_reducible refine LeO.ite ?_ ?_)
      | (with_reducible refine LeO.bind ?_ (fun _ => ?_))
      | exact ih0 _ _ _ _ _
      | exact ih1 _ _ _ _ _ _ _
      | exact ih2 _ _ _ _ _ _ _ _ _ _
      | exact ih3 _ _ _ _ _ _
      | exact ih4 _ _ _ _ _
      | exact r08_Each.mono _ _
      | exact r08_Has.mono _ _ _
      | exact r08_Made.mono _ _
      | exact r08_Same.mono _ _ _
      | exact r08_Size.mono _ _
      | exact r08_Valid.mono _ _
      | exact LeO.none _
      | refine LeO.ite ?_ ?_
      | refine LeO.bind ?_ (fun _ => ?_)
    · intro y0 y1 y2 y3 y4 y5
      unfold l08_ExtentErases.l1
      repeat' first
      | (with_reducible exact ih0 _ _ _ _ _)
      | (with_reducible exact ih1 _ _ _ _ _ _ _)
      | (with_reducible exact ih2 _ _ _ _ _ _ _ _ _ _)
      | (with_reducible exact ih3 _ _ _ _ _ _)
      | (with_reducible exact ih4 _ _ _ _ _)
      | (with_reducible exact r08_Each.mono _ _)
      | (with_reducible exact r08_Has.mono _ _ _)
      | (with_reducible exact r08_Made.mono _ _)
      | (with_reducible exact r08_Same.mono _ _ _)
      | (with_reducible exact r08_Size.mono _ _)
      | (with_reducible exact r08_Valid.mono _ _)
      | (with_reducible exact LeO.refl _)
      | (with_reducible exact LeO.none _)
      | (with_reducible refine LeO.ite ?_ ?_)
      | (with_reducible refine LeO.bind ?_ (fun _ => ?_))
      | exact ih0 _ _ _ _ _
      | exact ih1 _ _ _ _ _ _ _
      | exact ih2 _ _ _ _ _ _ _ _ _ _
      | exact ih3 _ _ _ _ _ _
      | exact ih4 _ _ _ _ _
      | exact r08_Each.mono _ _
      | exact r08_Has.mono _ _ _
      | exact r08_Made.mono _ _
      | exact r08_Same.mono _ _ _
      | exact r08_Size.mono _ _
      | exact r08_Valid.mono _ _
      | exact LeO.none _
      | refine LeO.ite ?_ ?_
      | refine LeO.bind ?_ (fun _ => ?_)
    · intro y0 y1 y2 y3 y4
      unfold l08_ExtentErases.l2
      repeat' first
      | (with_reducible exact ih0 _ _ _ _ _)
      | (with_reducible exact ih1 _ _ _ _ _ _ _)
      | (with_reducible exact ih2 _ _ _ _ _ _ _ _ _ _)
      | (with_reducible exact ih3 _ _ _ _ _ _)
      | (with_reducible exact ih4 _ _ _ _ _)
      | (with_reducible exact r08_Each.mono _ _)
      | (with_reducible exact r08_Has.mono _ _ _)
      | (with_reducible exact r08_Made.mono _ _)
      | (with_reducible exact r08_Same.mono _ _ _)
      | (with_reducible exact r08_Size.mono _ _)
      | (with_reducible exact r08_Valid.mono _ _)
      | (with_reducible exact LeO.refl _)
      | (with_reducible exact LeO.none _)
      | (with_reducible refine LeO.ite ?_ ?_)
      | (with_reducible refine LeO.bind ?_ (fun _ => ?_))
      | exact ih0 _ _ _ _ _
      | exact ih1 _ _ _ _ _ _ _
      | exact ih2 _ _ _ _ _ _ _ _ _ _
      | exact ih3 _ _ _ _ _ _
      | exact ih4 _ _ _ _ _
      | exact r08_Each.mono _ _
      | exact r08_Has.mono _ _ _
      | exact r08_Made.mono _ _
      | exact r08_Same.mono _ _ _
      | exact r08_Size.mono _ _
      | exact r08_Valid.mono _ _
      | exact LeO.none _
      | refine LeO.ite ?_ ?_
      | refine LeO.bind ?_ (fun _ => ?_)
theorem l08_ExtentErases.mono : ∀ a0 a1 k, LeO (l08_ExtentErases.f k a0 a1) (l08_ExtentErases.f (k + 1) a0 a1) := by
  intro a0 a1 k
  obtain ⟨ih0, ih1, ih2, ih3, ih4⟩ := l08_ExtentErases.mono_l k
  unfold l08_ExtentErases.f
  repeat' first
      | (with_reducible exact ih0 _ _ _ _ _)
      | (with_reducible exact ih1 _ _ _ _ _ _ _)
      | (with_reducible exact ih2 _ _ _ _ _ _ _ _ _ _)
      | (with_reducible exact ih3 _ _ _ _ _ _)
      | (with_reducible exact ih4 _ _ _ _ _)
      | (with_reducible exact r08_Each.mono _ _)
      | (with_reducible exact r08_Has.mono _ _ _)
      | (with_reducible exact r08_Made.mono _ _)
      | (with_reducible exact r08_Same.mono _ _ _)
      | (with_reducible exact r08_Size.mono _ _)
      | (with_reducible exact r08_Valid.mono _ _)
      | (with_reducible exact LeO.refl _)
      | (with_reducible exact LeO.none _)
      | (with_reducible refine LeO.ite ?_ ?_)
      | (with_reducible refine LeO.bind ?_ (fun _ => ?_))
      | exact ih0 _ _ _ _ _
      | exact ih1 _ _ _ _ _ _ _
      | exact ih2 _ _ _ _ _ _ _ _ _ _
      | exact ih3 _ _ _ _ _ _
      | exact ih4 _ _ _ _ _
      | exact r08_Each.mono _ _
      | exact r08_Has.mono _ _ _
      | exact r08_Made.mono _ _
      | exact r08_Same.mono _ _ _
      | exact r08_Size.mono _ _
      | exact r08_Valid.mono _ _
      | exact LeO.none _
      | refine LeO.ite ?_ ?_
      | refine LeO.bind ?_ (fun _ => ?_)
set_option maxHeartbeats 8000000 in
set_option maxRecDepth 100000 in
theorem l08_ExtentErases.calls (k : Nat) (A0 : Option Addr) (c0 : Nat) (l0 : List (S37)) (A1 : Option Addr) (c1 : Nat) (l1 : List Int) (r : Bool) (w : World) (hr0 : Kd.C k37 w A0 l0.length l0) (hc0 : l0.length ≤ c0) (hr1 : Kd.C (Kd.int .i64) w A1 l1.length l1) (hc1 : l1.length ≤ c1) (hr : r = true) (h : l08_ExtentErases.f k l0 l1 = some r) :
    Calls Try.prog 9 #[.slice A0 l0.length c0, .slice A1 l1.length c1] w fun e w' => e = .returned (.bool r) ∧ Below w.heap.size w w' := by
  have hu32 := Try.underlying32
  have HR0 := Aside0.mk hr0
  have HC0 := Aside0.mk hc0
  clear hr0 hc0
  have HR1 := Aside0.mk hr1
  have HC1 := Aside0.mk hc1
  clear hr1 hc1
  have HB := Aside0.mk (Below.refl w.heap.size w)
  have HLAW := Aside0.mk hr
  clear hr
  have H : ((l08_sanity.f).bind fun t248 => (if (l1.length : Int) > 6 then (some t248) else ((r08_Made.f k l0).bind fun t249 => ((extent_Erase.f t249 l1).bind fun t252 => ((r08_Valid.f k t252).bind fun t255 => (if t255 = true then ((r08_Size.f k t252).bind fun t256 => (l08_ExtentErases.j0 k l1 t248 t249 t252 (decide (t256 > 72)))) else (l08_ExtentErases.j0 k l1 t248 t249 t252 true))))))) = some r := h
  clear h
  replace H := Option.bind_eq_some_iff.mp H
  obtain ⟨t248, A30, H⟩ := H
  replace H : (if (l1.length : Int) > 6 then (some t248) else ((r08_Made.f k l0).bind fun t249 => ((extent_Erase.f t249 l1).bind fun t252 => ((r08_Valid.f k t252).bind fun t255 => (if t255 = true then ((r08_Size.f k t252).bind fun t256 => (l08_ExtentErases.j0 k l1 t248 t249 t252 (decide (t256 > 72)))) else (l08_ExtentErases.j0 k l1 t248 t249 t252 true)))))) = some r := H
  have A3 := Aside0.mk A30
  clear A30
  by_cases c4 : (l1.length : Int) > 6
  · rw [if_pos c4] at H
    have c4b0 : decide (6 < (l1.length : Int)) = true := decide_eq_true c4
    have c4b1 : decide (6 < l1.length) = true := decide_eq_true (by omega)
    clear c4
    clear HLAW
    obtain rfl := Option.some.inj H
    go_enter Try.func9, Try.ntmps9
    go_wp2_with (first | (go_at_call 10; (with_reducible refine (l08_sanity.calls  t248 _ A3.out).mono ?_); rintro e w5 ⟨rfl, hb⟩; have n0_ := Aside0.mk (below_step (by repeat (first | (with_reducible first | exact HB.out | apply below_alloc | apply pw_below_drewN | apply below_drew1) | exact HB.out)) hb); clear HB; have HB := n0_; clear n0_; (try clear hb); (try clear hb2); (try clear hk); (try clear hi)))
    repeat (go_quiet (first | (go_at_call 10; (with_reducible refine (l08_sanity.calls  t248 _ A3.out).mono ?_); rintro e w5 ⟨rfl, hb⟩; have n0_ := Aside0.mk (below_step (by repeat (first | (with_reducible first | exact HB.out | apply below_alloc | apply pw_below_drewN | apply below_drew1) | exact HB.out)) hb); clear HB; have HB := n0_; clear n0_; (try clear hb); (try clear hb2); (try clear hk); (try clear hi))); try go_wp2_with (first | (go_at_call 10; (with_reducible refine (l08_sanity.calls  t248 _ A3.out).mono ?_); rintro e w5 ⟨rfl, hb⟩; have n0_ := Aside0.mk (below_step (by repeat (first | (with_reducible first | exact HB.out | apply below_alloc | apply pw_below_drewN | apply below_drew1) | exact HB.out)) hb); clear HB; have HB := n0_; clear n0_; (try clear hb); (try clear hb2); (try clear hk); (try clear hi))))
    go_ret
    exact ⟨by first | rfl | (simp [errW_none, errW_some] <;> rfl) | (simp [*, errW_none, errW_some] <;> rfl) | (exfalso; simp_all only [aside0_iff, Option.some.injEq, reduceCtorEq]), by repeat (first | (with_reducible first | exact HB.out | apply below_alloc | apply pw_below_drewN | apply below_drew1) | exact HB.out)⟩
  · rw [if_neg c4] at H
    have c4b0 : decide (6 < (l1.length : Int)) = false := decide_eq_false c4
    have c4b1 : decide (6 < l1.length) = false := decide_eq_false (by omega)
    clear c4
    replace H := Option.bind_eq_some_iff.mp H
    obtain ⟨t249, A60, H⟩ := H
    replace H : ((extent_Erase.f t249 l1).bind fun t252 => ((r08_Valid.f k t252).bind fun t255 => (if t255 = true then ((r08_Size.f k t252).bind fun t256 => (l08_ExtentErases.j0 k l1 t248 t249 t252 (decide (t256 > 72)))) else (l08_ExtentErases.j0 k l1 t248 t249 t252 true)))) = some r := H
    have A6 := Aside0.mk A60
    clear A60
    replace H := Option.bind_eq_some_iff.mp H
    obtain ⟨t252, A70, H⟩ := H
    replace H : ((r08_Valid.f k t252).bind fun t255 => (if t255 = true then ((r08_Size.f k t252).bind fun t256 => (l08_ExtentErases.j0 k l1 t248 t249 t252 (decide (t256 > 72)))) else (l08_ExtentErases.j0 k l1 t248 t249 t252 true))) = some r := H
    have A7 := Aside0.mk A70
    clear A70
    have HC8 := Aside0.mk H
    clear H
    go_enter Try.func9, Try.ntmps9
    go_upto_region 6 with (first | (go_at_call 10; (with_reducible refine (l08_sanity.calls  t248 _ A3.out).mono ?_); rintro e w9 ⟨rfl, hb⟩; have n0_ := Aside0.mk (below_step (by repeat (first | (with_reducible first | exact HB.out | apply below_alloc | apply pw_below_drewN | apply below_drew1) | exact HB.out)) hb); clear HB; have HB := n0_; clear n0_; (try clear hb); (try clear hb2); (try clear hk); (try clear hi)) | (go_at_call 11; (with_reducible refine (r08_Made.calls k _ _ l0 t249 _ ?side1 ?side2 A6.out).mono ?_); (case side1 => repeat (first | exact (Kd.C_below HR0.out HB.out) | (with_reducible refine Kd.C_alloc ?_ _) | (with_reducible refine Kd.C_drewN ?_ _) | (with_reducible refine Kd.C_drew ?_))); (case side2 => exact HC0.out); rintro e w10 ⟨v250, rfl, ho0, hb⟩; have n0_ := Aside0.mk (Kd.R_lower ho0 (below_size (by repeat (first | (with_reducible first | exact HB.out | apply below_alloc | apply pw_below_drewN | apply below_drew1) | exact HB.out)))); have n1_ := Aside0.mk (below_step (by repeat (first | (with_reducible first | exact HB.out | apply below_alloc | apply pw_below_drewN | apply below_drew1) | exact HB.out)) hb); clear HB; have HO251 := n0_; have HB := n1_; clear n0_ n1_; (try clear hb); (try clear hb2); (try clear hk); (try clear hi); (try clear ho0); obtain ⟨Ao11, co11, eo11⟩ := Kd.R_slice HO251.out; subst eo11) | (go_at_call 29; (with_reducible refine (extent_Erase.calls _ _ t249 _ _ l1 t252 _ ?side1 ?side2 ?side3 ?side4 A7.out).mono ?_); (case side1 => repeat (first | exact (Kd.R_reads' HO251.out).2.2 | (with_reducible refine Kd.C_alloc ?_ _) | (with_reducible refine Kd.C_drewN ?_ _) | (with_reducible refine Kd.C_drew ?_))); (case side2 => exact (Kd.R_reads' HO251.out).2.1); (case side3 => repeat (first | exact (Kd.C_below HR1.out HB.out) | (with_reducible refine Kd.C_alloc ?_ _) | (with_reducible refine Kd.C_drewN ?_ _) | (with_reducible refine Kd.C_drew ?_))); (case side4 => exact HC1.out); rintro e w12 ⟨v253, rfl, ho0, hb⟩; have n0_ := Aside0.mk (Kd.R_elder' (by (with_reducible repeat (first | apply Kd.R_alloc | apply Kd.R_drewN | apply Kd.R_drew)); exact HO251.out) (Kd.R_base ho0) hb); have n1_ := Aside0.mk (Kd.R_lower (Kd.R_new' ho0 (Kd.R_lt (by (with_reducible repeat (first | apply Kd.R_alloc | apply Kd.R_drewN | apply Kd.R_drew)); exact HO251.out))) (below_size (by repeat (first | (with_reducible first | exact HB.out | apply below_alloc | apply pw_below_drewN | apply below_drew1) | exact HB.out)))); have n2_ := Aside0.mk (below_step (by repeat (first | (with_reducible first | exact HB.out | apply below_alloc | apply pw_below_drewN | apply below_drew1) | exact HB.out)) hb); clear HO251; clear HB; have HO251 := n0_; have HO254 := n1_; have HB := n2_; clear n0_ n1_ n2_; (try clear hb); (try clear hb2); (try clear hk); (try clear hi); (try clear ho0)))
    repeat (go_quiet (first | (go_at_call 10; (with_reducible refine (l08_sanity.calls  t248 _ A3.out).mono ?_); rintro e w9 ⟨rfl, hb⟩; have n0_ := Aside0.mk (below_step (by repeat (first | (with_reducible first | exact HB.out | apply below_alloc | apply pw_below_drewN | apply below_drew1) | exact HB.out)) hb); clear HB; have HB := n0_; clear n0_; (try clear hb); (try clear hb2); (try clear hk); (try clear hi)) | (go_at_call 11; (with_reducible refine (r08_Made.calls k _ _ l0 t249 _ ?side1 ?side2 A6.out).mono ?_); (case side1 => repeat (first | exact (Kd.C_below HR0.out HB.out) | (with_reducible refine Kd.C_alloc ?_ _) | (with_reducible refine Kd.C_drewN ?_ _) | (with_reducible refine Kd.C_drew ?_))); (case side2 => exact HC0.out); rintro e w10 ⟨v250, rfl, ho0, hb⟩; have n0_ := Aside0.mk (Kd.R_lower ho0 (below_size (by repeat (first | (with_reducible first | exact HB.out | apply below_alloc | apply pw_below_drewN | apply below_drew1) | exact HB.out)))); have n1_ := Aside0.mk (below_step (by repeat (first | (with_reducible first | exact HB.out | apply below_alloc | apply pw_below_drewN | apply below_drew1) | exact HB.out)) hb); clear HB; have HO251 := n0_; have HB := n1_; clear n0_ n1_; (try clear hb); (try clear hb2); (try clear hk); (try clear hi); (try clear ho0); obtain ⟨Ao11, co11, eo11⟩ := Kd.R_slice HO251.out; subst eo11) | (go_at_call 29; (with_reducible refine (extent_Erase.calls _ _ t249 _ _ l1 t252 _ ?side1 ?side2 ?side3 ?side4 A7.out).mono ?_); (case side1 => repeat (first | exact (Kd.R_reads' HO251.out).2.2 | (with_reducible refine Kd.C_alloc ?_ _) | (with_reducible refine Kd.C_drewN ?_ _) | (with_reducible refine Kd.C_drew ?_))); (case side2 => exact (Kd.R_reads' HO251.out).2.1); (case side3 => repeat (first | exact (Kd.C_below HR1.out HB.out) | (with_reducible refine Kd.C_alloc ?_ _) | (with_reducible refine Kd.C_drewN ?_ _) | (with_reducible refine Kd.C_drew ?_))); (case side4 => exact HC1.out); rintro e w12 ⟨v253, rfl, ho0, hb⟩; have n0_ := Aside0.mk (Kd.R_elder' (by (with_reducible repeat (first | apply Kd.R_alloc | apply Kd.R_drewN | apply Kd.R_drew)); exact HO251.out) (Kd.R_base ho0) hb); have n1_ := Aside0.mk (Kd.R_lower (Kd.R_new' ho0 (Kd.R_lt (by (with_reducible repeat (first | apply Kd.R_alloc | apply Kd.R_drewN | apply Kd.R_drew)); exact HO251.out))) (below_size (by repeat (first | (with_reducible first | exact HB.out | apply below_alloc | apply pw_below_drewN | apply below_drew1) | exact HB.out)))); have n2_ := Aside0.mk (below_step (by repeat (first | (with_reducible first | exact HB.out | apply below_alloc | apply pw_below_drewN | apply below_drew1) | exact HB.out)) hb); clear HO251; clear HB; have HO251 := n0_; have HO254 := n1_; have HB := n2_; clear n0_ n1_ n2_; (try clear hb); (try clear hb2); (try clear hk); (try clear hi); (try clear ho0))); go_upto_region 6 with (first | (go_at_call 10; (with_reducible refine (l08_sanity.calls  t248 _ A3.out).mono ?_); rintro e w9 ⟨rfl, hb⟩; have n0_ := Aside0.mk (below_step (by repeat (first | (with_reducible first | exact HB.out | apply below_alloc | apply pw_below_drewN | apply below_drew1) | exact HB.out)) hb); clear HB; have HB := n0_; clear n0_; (try clear hb); (try clear hb2); (try clear hk); (try clear hi)) | (go_at_call 11; (with_reducible refine (r08_Made.calls k _ _ l0 t249 _ ?side1 ?side2 A6.out).mono ?_); (case side1 => repeat (first | exact (Kd.C_below HR0.out HB.out) | (with_reducible refine Kd.C_alloc ?_ _) | (with_reducible refine Kd.C_drewN ?_ _) | (with_reducible refine Kd.C_drew ?_))); (case side2 => exact HC0.out); rintro e w10 ⟨v250, rfl, ho0, hb⟩; have n0_ := Aside0.mk (Kd.R_lower ho0 (below_size (by repeat (first | (with_reducible first | exact HB.out | apply below_alloc | apply pw_below_drewN | apply below_drew1) | exact HB.out)))); have n1_ := Aside0.mk (below_step (by repeat (first | (with_reducible first | exact HB.out | apply below_alloc | apply pw_below_drewN | apply below_drew1) | exact HB.out)) hb); clear HB; have HO251 := n0_; have HB := n1_; clear n0_ n1_; (try clear hb); (try clear hb2); (try clear hk); (try clear hi); (try clear ho0); obtain ⟨Ao11, co11, eo11⟩ := Kd.R_slice HO251.out; subst eo11) | (go_at_call 29; (with_reducible refine (extent_Erase.calls _ _ t249 _ _ l1 t252 _ ?side1 ?side2 ?side3 ?side4 A7.out).mono ?_); (case side1 => repeat (first | exact (Kd.R_reads' HO251.out).2.2 | (with_reducible refine Kd.C_alloc ?_ _) | (with_reducible refine Kd.C_drewN ?_ _) | (with_reducible refine Kd.C_drew ?_))); (case side2 => exact (Kd.R_reads' HO251.out).2.1); (case side3 => repeat (first | exact (Kd.C_below HR1.out HB.out) | (with_reducible refine Kd.C_alloc ?_ _) | (with_reducible refine Kd.C_drewN ?_ _) | (with_reducible refine Kd.C_drew ?_))); (case side4 => exact HC1.out); rintro e w12 ⟨v253, rfl, ho0, hb⟩; have n0_ := Aside0.mk (Kd.R_elder' (by (with_reducible repeat (first | apply Kd.R_alloc | apply Kd.R_drewN | apply Kd.R_drew)); exact HO251.out) (Kd.R_base ho0) hb); have n1_ := Aside0.mk (Kd.R_lower (Kd.R_new' ho0 (Kd.R_lt (by (with_reducible repeat (first | apply Kd.R_alloc | apply Kd.R_drewN | apply Kd.R_drew)); exact HO251.out))) (below_size (by repeat (first | (with_reducible first | exact HB.out | apply below_alloc | apply pw_below_drewN | apply below_drew1) | exact HB.out)))); have n2_ := Aside0.mk (below_step (by repeat (first | (with_reducible first | exact HB.out | apply below_alloc | apply pw_below_drewN | apply below_drew1) | exact HB.out)) hb); clear HO251; clear HB; have HO251 := n0_; have HO254 := n1_; have HB := n2_; clear n0_ n1_ n2_; (try clear hb); (try clear hb2); (try clear hk); (try clear hi); (try clear ho0))))
    (try simp only [Act.put, List.setIfInBounds_toArray, List.set_cons_zero, List.set_cons_succ])
    go_cut [33] (fun v33 wc => ∃ (kq : Nat) (x33_7 : Bool), v33 = .bool x33_7 ∧ Aside0 (l08_ExtentErases.j0 kq l1 t248 t249 t252 x33_7 = some r) ∧ Aside0 (kq ≤ k) ∧ Aside0 (Kd.R k58 58 wc w.heap.size (fun k_ => some k_ ≠ (v253 : Value).ownBlock) (.slice Ao11 t249.length co11) t249) ∧ Aside0 (Kd.R k58 58 wc w.heap.size (fun k_ => some k_ ≠ ((.slice Ao11 t249.length co11) : Value).ownBlock) v253 t252) ∧ Aside0 (Below w.heap.size w wc))
    case first =>
      have H := HC8.out
      clear HC8
      replace H := Option.bind_eq_some_iff.mp H
      obtain ⟨t255, A130, H⟩ := H
      replace H : (if t255 = true then ((r08_Size.f k t252).bind fun t256 => (l08_ExtentErases.j0 k l1 t248 t249 t252 (decide (t256 > 72)))) else (l08_ExtentErases.j0 k l1 t248 t249 t252 true)) = some r := H
      have A13 := Aside0.mk A130
      clear A130
      by_cases c14 : t255 = true
      · subst c14
        have H1 : ((r08_Size.f k t252).bind fun t256 => (l08_ExtentErases.j0 k l1 t248 t249 t252 (decide (t256 > 72)))) = some r := by rw [if_pos rfl] at H; exact H
        clear H
        have H := H1
        clear H1
        replace H := Option.bind_eq_some_iff.mp H
        obtain ⟨t256, A150, H⟩ := H
        replace H : (l08_ExtentErases.j0 k l1 t248 t249 t252 (decide (t256 > 72))) = some r := H
        have A15 := Aside0.mk A150
        clear A150
        have H' := Aside0.mk H
        clear H
        obtain ⟨Ao16, co16, eo16⟩ := Kd.R_slice HO254.out
        subst eo16
        go_wp2_with (first | (go_at_call 14; (with_reducible refine (r08_Valid.calls k _ _ t252 true _ ?side1 ?side2 A13.out).mono ?_); (case side1 => repeat (first | exact (Kd.R_reads' HO254.out).2.2 | (with_reducible refine Kd.C_alloc ?_ _) | (with_reducible refine Kd.C_drewN ?_ _) | (with_reducible refine Kd.C_drew ?_))); (case side2 => exact (Kd.R_reads' HO254.out).2.1); rintro e w17 ⟨rfl, hb⟩; have n0_ := Aside0.mk (Kd.R_below (by (with_reducible repeat (first | apply Kd.R_alloc | apply Kd.R_drewN | apply Kd.R_drew)); exact HO251.out) hb); have n1_ := Aside0.mk (Kd.R_below (by (with_reducible repeat (first | apply Kd.R_alloc | apply Kd.R_drewN | apply Kd.R_drew)); exact HO254.out) hb); have n2_ := Aside0.mk (below_step (by repeat (first | (with_reducible first | exact HB.out | apply below_alloc | apply pw_below_drewN | apply below_drew1) | exact HB.out)) hb); clear HO251; clear HO254; clear HB; have HO251 := n0_; have HO254 := n1_; have HB := n2_; clear n0_ n1_ n2_; (try clear hb); (try clear hb2); (try clear hk); (try clear hi)) | (go_at_call 15; (with_reducible refine (r08_Size.calls k _ _ t252 t256 _ ?side1 ?side2 A15.out).mono ?_); (case side1 => repeat (first | exact (Kd.R_reads' HO254.out).2.2 | (with_reducible refine Kd.C_alloc ?_ _) | (with_reducible refine Kd.C_drewN ?_ _) | (with_reducible refine Kd.C_drew ?_))); (case side2 => exact (Kd.R_reads' HO254.out).2.1); rintro e w' ⟨rfl, ⟨nd, rfl⟩⟩; (try first | exact ⟨rfl, _, World.drewN_drewN _ _ _⟩ | exact ⟨rfl, _, Eq.trans (World.drewN_drewN _ _ _) (congrArg (World.drewN _) (Nat.add_assoc _ _ _))⟩)))
        repeat (go_quiet (first | (go_at_call 14; (with_reducible refine (r08_Valid.calls k _ _ t252 true _ ?side1 ?side2 A13.out).mono ?_); (case side1 => repeat (first | exact (Kd.R_reads' HO254.out).2.2 | (with_reducible refine Kd.C_alloc ?_ _) | (with_reducible refine Kd.C_drewN ?_ _) | (with_reducible refine Kd.C_drew ?_))); (case side2 => exact (Kd.R_reads' HO254.out).2.1); rintro e w17 ⟨rfl, hb⟩; have n0_ := Aside0.mk (Kd.R_below (by (with_reducible repeat (first | apply Kd.R_alloc | apply Kd.R_drewN | apply Kd.R_drew)); exact HO251.out) hb); have n1_ := Aside0.mk (Kd.R_below (by (with_reducible repeat (first | apply Kd.R_alloc | apply Kd.R_drewN | apply Kd.R_drew)); exact HO254.out) hb); have n2_ := Aside0.mk (below_step (by repeat (first | (with_reducible first | exact HB.out | apply below_alloc | apply pw_below_drewN | apply below_drew1) | exact HB.out)) hb); clear HO251; clear HO254; clear HB; have HO251 := n0_; have HO254 := n1_; have HB := n2_; clear n0_ n1_ n2_; (try clear hb); (try clear hb2); (try clear hk); (try clear hi)) | (go_at_call 15; (with_reducible refine (r08_Size.calls k _ _ t252 t256 _ ?side1 ?side2 A15.out).mono ?_); (case side1 => repeat (first | exact (Kd.R_reads' HO254.out).2.2 | (with_reducible refine Kd.C_alloc ?_ _) | (with_reducible refine Kd.C_drewN ?_ _) | (with_reducible refine Kd.C_drew ?_))); (case side2 => exact (Kd.R_reads' HO254.out).2.1); rintro e w' ⟨rfl, ⟨nd, rfl⟩⟩; (try first | exact ⟨rfl, _, World.drewN_drewN _ _ _⟩ | exact ⟨rfl, _, Eq.trans (World.drewN_drewN _ _ _) (congrArg (World.drewN _) (Nat.add_assoc _ _ _))⟩))); try go_wp2_with (first | (go_at_call 14; (with_reducible refine (r08_Valid.calls k _ _ t252 true _ ?side1 ?side2 A13.out).mono ?_); (case side1 => repeat (first | exact (Kd.R_reads' HO254.out).2.2 | (with_reducible refine Kd.C_alloc ?_ _) | (with_reducible refine Kd.C_drewN ?_ _) | (with_reducible refine Kd.C_drew ?_))); (case side2 => exact (Kd.R_reads' HO254.out).2.1); rintro e w17 ⟨rfl, hb⟩; have n0_ := Aside0.mk (Kd.R_below (by (with_reducible repeat (first | apply Kd.R_alloc | apply Kd.R_drewN | apply Kd.R_drew)); exact HO251.out) hb); have n1_ := Aside0.mk (Kd.R_below (by (with_reducible repeat (first | apply Kd.R_alloc | apply Kd.R_drewN | apply Kd.R_drew)); exact HO254.out) hb); have n2_ := Aside0.mk (below_step (by repeat (first | (with_reducible first | exact HB.out | apply below_alloc | apply pw_below_drewN | apply below_drew1) | exact HB.out)) hb); clear HO251; clear HO254; clear HB; have HO251 := n0_; have HO254 := n1_; have HB := n2_; clear n0_ n1_ n2_; (try clear hb); (try clear hb2); (try clear hk); (try clear hi)) | (go_at_call 15; (with_reducible refine (r08_Size.calls k _ _ t252 t256 _ ?side1 ?side2 A15.out).mono ?_); (case side1 => repeat (first | exact (Kd.R_reads' HO254.out).2.2 | (with_reducible refine Kd.C_alloc ?_ _) | (with_reducible refine Kd.C_drewN ?_ _) | (with_reducible refine Kd.C_drew ?_))); (case side2 => exact (Kd.R_reads' HO254.out).2.1); rintro e w' ⟨rfl, ⟨nd, rfl⟩⟩; (try first | exact ⟨rfl, _, World.drewN_drewN _ _ _⟩ | exact ⟨rfl, _, Eq.trans (World.drewN_drewN _ _ _) (congrArg (World.drewN _) (Nat.add_assoc _ _ _))⟩))))
        go_meet
        case rel => exact ⟨_, (decide (t256 > 72)), (by first | rfl | (simp; done) | (simp [*]; done)), H', ⟨by first | omega | exact Nat.le_refl _⟩, ⟨by (with_reducible repeat (first | apply Kd.R_alloc | apply Kd.R_drewN | apply Kd.R_drew)); exact Kd.R_mono HO251.out (fun _ hk => hk.2)⟩, ⟨by (with_reducible repeat (first | apply Kd.R_alloc | apply Kd.R_drewN | apply Kd.R_drew)); exact Kd.R_mono HO254.out (fun _ hk => hk.2)⟩, ⟨by repeat (first | (with_reducible first | exact HB.out | apply below_alloc | apply pw_below_drewN | apply below_drew1) | exact HB.out)⟩⟩
      · replace c14 := Bool.eq_false_iff.mpr c14
        subst c14
        have H1 : (l08_ExtentErases.j0 k l1 t248 t249 t252 true) = some r := by rw [if_neg (show ¬ (false = true) by decide)] at H; exact H
        clear H
        have H := H1
        clear H1
        have H' := Aside0.mk H
        clear H
        obtain ⟨Ao18, co18, eo18⟩ := Kd.R_slice HO254.out
        subst eo18
        go_wp2_with (first | (go_at_call 14; (with_reducible refine (r08_Valid.calls k _ _ t252 false _ ?side1 ?side2 A13.out).mono ?_); (case side1 => repeat (first | exact (Kd.R_reads' HO254.out).2.2 | (with_reducible refine Kd.C_alloc ?_ _) | (with_reducible refine Kd.C_drewN ?_ _) | (with_reducible refine Kd.C_drew ?_))); (case side2 => exact (Kd.R_reads' HO254.out).2.1); rintro e w19 ⟨rfl, hb⟩; have n0_ := Aside0.mk (Kd.R_below (by (with_reducible repeat (first | apply Kd.R_alloc | apply Kd.R_drewN | apply Kd.R_drew)); exact HO251.out) hb); have n1_ := Aside0.mk (Kd.R_below (by (with_reducible repeat (first | apply Kd.R_alloc | apply Kd.R_drewN | apply Kd.R_drew)); exact HO254.out) hb); have n2_ := Aside0.mk (below_step (by repeat (first | (with_reducible first | exact HB.out | apply below_alloc | apply pw_below_drewN | apply below_drew1) | exact HB.out)) hb); clear HO251; clear HO254; clear HB; have HO251 := n0_; have HO254 := n1_; have HB := n2_; clear n0_ n1_ n2_; (try clear hb); (try clear hb2); (try clear hk); (try clear hi)))
        repeat (go_quiet (first | (go_at_call 14; (with_reducible refine (r08_Valid.calls k _ _ t252 false _ ?side1 ?side2 A13.out).mono ?_); (case side1 => repeat (first | exact (Kd.R_reads' HO254.out).2.2 | (with_reducible refine Kd.C_alloc ?_ _) | (with_reducible refine Kd.C_drewN ?_ _) | (with_reducible refine Kd.C_drew ?_))); (case side2 => exact (Kd.R_reads' HO254.out).2.1); rintro e w19 ⟨rfl, hb⟩; have n0_ := Aside0.mk (Kd.R_below (by (with_reducible repeat (first | apply Kd.R_alloc | apply Kd.R_drewN | apply Kd.R_drew)); exact HO251.out) hb); have n1_ := Aside0.mk (Kd.R_below (by (with_reducible repeat (first | apply Kd.R_alloc | apply Kd.R_drewN | apply Kd.R_drew)); exact HO254.out) hb); have n2_ := Aside0.mk (below_step (by repeat (first | (with_reducible first | exact HB.out | apply below_alloc | apply pw_below_drewN | apply below_drew1) | exact HB.out)) hb); clear HO251; clear HO254; clear HB; have HO251 := n0_; have HO254 := n1_; have HB := n2_; clear n0_ n1_ n2_; (try clear hb); (try clear hb2); (try clear hk); (try clear hi))); try go_wp2_with (first | (go_at_call 14; (with_reducible refine (r08_Valid.calls k _ _ t252 false _ ?side1 ?side2 A13.out).mono ?_); (case side1 => repeat (first | exact (Kd.R_reads' HO254.out).2.2 | (with_reducible refine Kd.C_alloc ?_ _) | (with_reducible refine Kd.C_drewN ?_ _) | (with_reducible refine Kd.C_drew ?_))); (case side2 => exact (Kd.R_reads' HO254.out).2.1); rintro e w19 ⟨rfl, hb⟩; have n0_ := Aside0.mk (Kd.R_below (by (with_reducible repeat (first | apply Kd.R_alloc | apply Kd.R_drewN | apply Kd.R_drew)); exact HO251.out) hb); have n1_ := Aside0.mk (Kd.R_below (by (with_reducible repeat (first | apply Kd.R_alloc | apply Kd.R_drewN | apply Kd.R_drew)); exact HO254.out) hb); have n2_ := Aside0.mk (below_step (by repeat (first | (with_reducible first | exact HB.out | apply below_alloc | apply pw_below_drewN | apply below_drew1) | exact HB.out)) hb); clear HO251; clear HO254; clear HB; have HO251 := n0_; have HO254 := n1_; have HB := n2_; clear n0_ n1_ n2_; (try clear hb); (try clear hb2); (try clear hk); (try clear hi))))
        go_meet
        case rel => exact ⟨_, (true), (by first | rfl | (simp; done) | (simp [*]; done)), H', ⟨by first | omega | exact Nat.le_refl _⟩, ⟨by (with_reducible repeat (first | apply Kd.R_alloc | apply Kd.R_drewN | apply Kd.R_drew)); exact Kd.R_mono HO251.out (fun _ hk => hk.2)⟩, ⟨by (with_reducible repeat (first | apply Kd.R_alloc | apply Kd.R_drewN | apply Kd.R_drew)); exact Kd.R_mono HO254.out (fun _ hk => hk.2)⟩, ⟨by repeat (first | (with_reducible first | exact HB.out | apply below_alloc | apply pw_below_drewN | apply below_drew1) | exact HB.out)⟩⟩
    case rest =>
      clear HC8
      try clear c1
      try clear p2
      try clear c4
      try clear c4b0
      try clear c4b1
      try clear c9
      try clear c14
      obtain ⟨kq, x33_7, rfl, HA, HJ7, HO_6, HO_7, HB⟩ := hcut
      cases kq with
      | zero => exact absurd HA.out (by simp [l08_ExtentErases.j0])
      | succ kj7 =>
        have H := HA.out
        clear HA
        simp only [l08_ExtentErases.j0] at H
        by_cases c20 : x33_7 = true
        · subst c20
          have H1 : (some false) = some r := by rw [if_pos rfl] at H; exact H
          clear H
          have H := H1
          clear H1
          exact absurd ((Option.some.inj H).trans HLAW.out) (by decide)
        · replace c20 := Bool.eq_false_iff.mpr c20
          subst c20
          have H1 : ((r08_Each.f kj7 t249).bind fun t257 => ((r08_Each.f kj7 t252).bind fun t260 => (if (t260.length : Int) = (t257.length : Int) then (l08_ExtentErases.l0 kj7 l1 t248 t249 t252 t257 t260 0) else (some false)))) = some r := by rw [if_neg (show ¬ (false = true) by decide)] at H; exact H
          clear H
          have H := H1
          clear H1
          replace H := Option.bind_eq_some_iff.mp H
          obtain ⟨t257, A210, H⟩ := H
          replace H : ((r08_Each.f kj7 t252).bind fun t260 => (if (t260.length : Int) = (t257.length : Int) then (l08_ExtentErases.l0 kj7 l1 t248 t249 t252 t257 t260 0) else (some false))) = some r := H
          have A21 := Aside0.mk A210
          clear A210
          replace H := Option.bind_eq_some_iff.mp H
          obtain ⟨t260, A220, H⟩ := H
          replace H : (if (t260.length : Int) = (t257.length : Int) then (l08_ExtentErases.l0 kj7 l1 t248 t249 t252 t257 t260 0) else (some false)) = some r := H
          have A22 := Aside0.mk A220
          clear A220
          by_cases c23 : (t260.length : Int) = (t257.length : Int)
          · rw [if_pos c23] at H
            have c23b0 : ((t260.length : Int) == (t257.length : Int)) = true := beq_iff_eq.mpr c23
            have c23b1 : ((t260.length : Int) != (t257.length : Int)) = false := bne_eq_false_iff_eq.mpr c23
            have c23b2 : (t260.length == t257.length) = true := by first | simpa using c23 | (simp at c23 ⊢; omega)
            clear c23
            have H' := Aside0.mk H
            clear H
            go_wp2_with (first | (go_at_call 12; (with_reducible refine (r08_Each.calls kj7 _ _ t249 t257 _ ?side1 ?side2 A21.out).mono ?_); (case side1 => repeat (first | exact (Kd.R_reads' HO_6.out).2.2 | (with_reducible refine Kd.C_alloc ?_ _) | (with_reducible refine Kd.C_drewN ?_ _) | (with_reducible refine Kd.C_drew ?_))); (case side2 => exact (Kd.R_reads' HO_6.out).2.1); rintro e w24 ⟨v258, rfl, ho0, hb⟩; have n0_ := Aside0.mk (Kd.R_below (by (with_reducible repeat (first | apply Kd.R_alloc | apply Kd.R_drewN | apply Kd.R_drew)); exact HO_6.out) hb); have n1_ := Aside0.mk (Kd.R_below (by (with_reducible repeat (first | apply Kd.R_alloc | apply Kd.R_drewN | apply Kd.R_drew)); exact HO_7.out) hb); have n2_ := Aside0.mk (Kd.R_lower ho0 (below_size (by repeat (first | (with_reducible first | exact HB.out | apply below_alloc | apply pw_below_drewN | apply below_drew1) | exact HB.out)))); have n3_ := Aside0.mk (below_step (by repeat (first | (with_reducible first | exact HB.out | apply below_alloc | apply pw_below_drewN | apply below_drew1) | exact HB.out)) hb); clear HO_6; clear HO_7; clear HB; have HO_6 := n0_; have HO_7 := n1_; have HO259 := n2_; have HB := n3_; clear n0_ n1_ n2_ n3_; (try clear hb); (try clear hb2); (try clear hk); (try clear hi); (try clear ho0); obtain ⟨Ao25, co25, eo25⟩ := Kd.R_slice HO_7.out; subst eo25) | (go_at_call 12; (with_reducible refine (r08_Each.calls kj7 _ _ t252 t260 _ ?side1 ?side2 A22.out).mono ?_); (case side1 => repeat (first | exact (Kd.R_reads' HO_7.out).2.2 | (with_reducible refine Kd.C_alloc ?_ _) | (with_reducible refine Kd.C_drewN ?_ _) | (with_reducible refine Kd.C_drew ?_))); (case side2 => exact (Kd.R_reads' HO_7.out).2.1); rintro e w26 ⟨v261, rfl, ho0, hb⟩; have n0_ := Aside0.mk (Kd.R_below (by (with_reducible repeat (first | apply Kd.R_alloc | apply Kd.R_drewN | apply Kd.R_drew)); exact HO_6.out) hb); have n1_ := Aside0.mk (Kd.R_below (by (with_reducible repeat (first | apply Kd.R_alloc | apply Kd.R_drewN | apply Kd.R_drew)); exact HO_7.out) hb); have n2_ := Aside0.mk (Kd.R_elder' (by (with_reducible repeat (first | apply Kd.R_alloc | apply Kd.R_drewN | apply Kd.R_drew)); exact HO259.out) (Kd.R_base ho0) hb); have n3_ := Aside0.mk (Kd.R_lower (Kd.R_new' ho0 (Kd.R_lt (by (with_reducible repeat (first | apply Kd.R_alloc | apply Kd.R_drewN | apply Kd.R_drew)); exact HO259.out))) (below_size (by repeat (first | (with_reducible first | exact HB.out | apply below_alloc | apply pw_below_drewN | apply below_drew1) | exact HB.out)))); have n4_ := Aside0.mk (below_step (by repeat (first | (with_reducible first | exact HB.out | apply below_alloc | apply pw_below_drewN | apply below_drew1) | exact HB.out)) hb); clear HO_6; clear HO_7; clear HO259; clear HB; have HO_6 := n0_; have HO_7 := n1_; have HO259 := n2_; have HO262 := n3_; have HB := n4_; clear n0_ n1_ n2_ n3_ n4_; (try clear hb); (try clear hb2); (try clear hk); (try clear hi); (try clear ho0); obtain ⟨Ao27, co27, eo27⟩ := Kd.R_slice HO262.out; subst eo27; obtain ⟨Ao28, co28, eo28⟩ := Kd.R_slice HO259.out; subst eo28))
            repeat (go_quiet (first | (go_at_call 12; (with_reducible refine (r08_Each.calls kj7 _ _ t249 t257 _ ?side1 ?side2 A21.out).mono ?_); (case side1 => repeat (first | exact (Kd.R_reads' HO_6.out).2.2 | (with_reducible refine Kd.C_alloc ?_ _) | (with_reducible refine Kd.C_drewN ?_ _) | (with_reducible refine Kd.C_drew ?_))); (case side2 => exact (Kd.R_reads' HO_6.out).2.1); rintro e w24 ⟨v258, rfl, ho0, hb⟩; have n0_ := Aside0.mk (Kd.R_below (by (with_reducible repeat (first | apply Kd.R_alloc | apply Kd.R_drewN | apply Kd.R_drew)); exact HO_6.out) hb); have n1_ := Aside0.mk (Kd.R_below (by (with_reducible repeat (first | apply Kd.R_alloc | apply Kd.R_drewN | apply Kd.R_drew)); exact HO_7.out) hb); have n2_ := Aside0.mk (Kd.R_lower ho0 (below_size (by repeat (first | (with_reducible first | exact HB.out | apply below_alloc | apply pw_below_drewN | apply below_drew1) | exact HB.out)))); have n3_ := Aside0.mk (below_step (by repeat (first | (with_reducible first | exact HB.out | apply below_alloc | apply pw_below_drewN | apply below_drew1) | exact HB.out)) hb); clear HO_6; clear HO_7; clear HB; have HO_6 := n0_; have HO_7 := n1_; have HO259 := n2_; have HB := n3_; clear n0_ n1_ n2_ n3_; (try clear hb); (try clear hb2); (try clear hk); (try clear hi); (try clear ho0); obtain ⟨Ao25, co25, eo25⟩ := Kd.R_slice HO_7.out; subst eo25) | (go_at_call 12; (with_reducible refine (r08_Each.calls kj7 _ _ t252 t260 _ ?side1 ?side2 A22.out).mono ?_); (case side1 => repeat (first | exact (Kd.R_reads' HO_7.out).2.2 | (with_reducible refine Kd.C_alloc ?_ _) | (with_reducible refine Kd.C_drewN ?_ _) | (with_reducible refine Kd.C_drew ?_))); (case side2 => exact (Kd.R_reads' HO_7.out).2.1); rintro e w26 ⟨v261, rfl, ho0, hb⟩; have n0_ := Aside0.mk (Kd.R_below (by (with_reducible repeat (first | apply Kd.R_alloc | apply Kd.R_drewN | apply Kd.R_drew)); exact HO_6.out) hb); have n1_ := Aside0.mk (Kd.R_below (by (with_reducible repeat (first | apply Kd.R_alloc | apply Kd.R_drewN | apply Kd.R_drew)); exact HO_7.out) hb); have n2_ := Aside0.mk (Kd.R_elder' (by (with_reducible repeat (first | apply Kd.R_alloc | apply Kd.R_drewN | apply Kd.R_drew)); exact HO259.out) (Kd.R_base ho0) hb); have n3_ := Aside0.mk (Kd.R_lower (Kd.R_new' ho0 (Kd.R_lt (by (with_reducible repeat (first | apply Kd.R_alloc | apply Kd.R_drewN | apply Kd.R_drew)); exact HO259.out))) (below_size (by repeat (first | (with_reducible first | exact HB.out | apply below_alloc | apply pw_below_drewN | apply below_drew1) | exact HB.out)))); have n4_ := Aside0.mk (below_step (by repeat (first | (with_reducible first | exact HB.out | apply below_alloc | apply pw_below_drewN | apply below_drew1) | exact HB.out)) hb); clear HO_6; clear HO_7; clear HO259; clear HB; have HO_6 := n0_; have HO_7 := n1_; have HO259 := n2_; have HO262 := n3_; have HB := n4_; clear n0_ n1_ n2_ n3_ n4_; (try clear hb); (try clear hb2); (try clear hk); (try clear hi); (try clear ho0); obtain ⟨Ao27, co27, eo27⟩ := Kd.R_slice HO262.out; subst eo27; obtain ⟨Ao28, co28, eo28⟩ := Kd.R_slice HO259.out; subst eo28)); try go_wp2_with (first | (go_at_call 12; (with_reducible refine (r08_Each.calls kj7 _ _ t249 t257 _ ?side1 ?side2 A21.out).mono ?_); (case side1 => repeat (first | exact (Kd.R_reads' HO_6.out).2.2 | (with_reducible refine Kd.C_alloc ?_ _) | (with_reducible refine Kd.C_drewN ?_ _) | (with_reducible refine Kd.C_drew ?_))); (case side2 => exact (Kd.R_reads' HO_6.out).2.1); rintro e w24 ⟨v258, rfl, ho0, hb⟩; have n0_ := Aside0.mk (Kd.R_below (by (with_reducible repeat (first | apply Kd.R_alloc | apply Kd.R_drewN | apply Kd.R_drew)); exact HO_6.out) hb); have n1_ := Aside0.mk (Kd.R_below (by (with_reducible repeat (first | apply Kd.R_alloc | apply Kd.R_drewN | apply Kd.R_drew)); exact HO_7.out) hb); have n2_ := Aside0.mk (Kd.R_lower ho0 (below_size (by repeat (first | (with_reducible first | exact HB.out | apply below_alloc | apply pw_below_drewN | apply below_drew1) | exact HB.out)))); have n3_ := Aside0.mk (below_step (by repeat (first | (with_reducible first | exact HB.out | apply below_alloc | apply pw_below_drewN | apply below_drew1) | exact HB.out)) hb); clear HO_6; clear HO_7; clear HB; have HO_6 := n0_; have HO_7 := n1_; have HO259 := n2_; have HB := n3_; clear n0_ n1_ n2_ n3_; (try clear hb); (try clear hb2); (try clear hk); (try clear hi); (try clear ho0); obtain ⟨Ao25, co25, eo25⟩ := Kd.R_slice HO_7.out; subst eo25) | (go_at_call 12; (with_reducible refine (r08_Each.calls kj7 _ _ t252 t260 _ ?side1 ?side2 A22.out).mono ?_); (case side1 => repeat (first | exact (Kd.R_reads' HO_7.out).2.2 | (with_reducible refine Kd.C_alloc ?_ _) | (with_reducible refine Kd.C_drewN ?_ _) | (with_reducible refine Kd.C_drew ?_))); (case side2 => exact (Kd.R_reads' HO_7.out).2.1); rintro e w26 ⟨v261, rfl, ho0, hb⟩; have n0_ := Aside0.mk (Kd.R_below (by (with_reducible repeat (first | apply Kd.R_alloc | apply Kd.R_drewN | apply Kd.R_drew)); exact HO_6.out) hb); have n1_ := Aside0.mk (Kd.R_below (by (with_reducible repeat (first | apply Kd.R_alloc | apply Kd.R_drewN | apply Kd.R_drew)); exact HO_7.out) hb); have n2_ := Aside0.mk (Kd.R_elder' (by (with_reducible repeat (first | apply Kd.R_alloc | apply Kd.R_drewN | apply Kd.R_drew)); exact HO259.out) (Kd.R_base ho0) hb); have n3_ := Aside0.mk (Kd.R_lower (Kd.R_new' ho0 (Kd.R_lt (by (with_reducible repeat (first | apply Kd.R_alloc | apply Kd.R_drewN | apply Kd.R_drew)); exact HO259.out))) (below_size (by repeat (first | (with_reducible first | exact HB.out | apply below_alloc | apply pw_below_drewN | apply below_drew1) | exact HB.out)))); have n4_ := Aside0.mk (below_step (by repeat (first | (with_reducible first | exact HB.out | apply below_alloc | apply pw_below_drewN | apply below_drew1) | exact HB.out)) hb); clear HO_6; clear HO_7; clear HO259; clear HB; have HO_6 := n0_; have HO_7 := n1_; have HO259 := n2_; have HO262 := n3_; have HB := n4_; clear n0_ n1_ n2_ n3_ n4_; (try clear hb); (try clear hb2); (try clear hk); (try clear hi); (try clear ho0); obtain ⟨Ao27, co27, eo27⟩ := Kd.R_slice HO262.out; subst eo27; obtain ⟨Ao28, co28, eo28⟩ := Kd.R_slice HO259.out; subst eo28)))
            go_loopg [10] kj7 (fun kq v10 w' => ∃ (x10_2 : Int), v10 = .int .i64 x10_2 ∧ Aside0 (l08_ExtentErases.l0 kq l1 t248 t249 t252 t257 t260 x10_2 = some r) ∧ Aside0 (kq ≤ kj7) ∧ Aside0 (Kd.R k58 58 w' w.heap.size (fun k_ => some k_ ≠ ((.slice Ao25 t252.length co25) : Value).ownBlock) (.slice Ao11 t249.length co11) t249) ∧ Aside0 (Kd.R k58 58 w' w.heap.size (fun k_ => some k_ ≠ ((.slice Ao11 t249.length co11) : Value).ownBlock) (.slice Ao25 t252.length co25) t252) ∧ Aside0 (Kd.R k32 32 w' w.heap.size (fun k_ => some k_ ≠ ((.slice Ao27 t260.length co27) : Value).ownBlock) (.slice Ao28 t257.length co28) t257) ∧ Aside0 (Kd.R k32 32 w' w.heap.size (fun k_ => some k_ ≠ ((.slice Ao28 t257.length co28) : Value).ownBlock) (.slice Ao27 t260.length co27) t260) ∧ Aside0 (Below w.heap.size w w'))
            case atStart => exact ⟨(0), (by first | rfl | (simp; done) | (simp [*]; done)), H', ⟨Nat.le_refl _⟩, ⟨by (with_reducible repeat (first | apply Kd.R_alloc | apply Kd.R_drewN | apply Kd.R_drew)); exact HO_6.out⟩, ⟨by (with_reducible repeat (first | apply Kd.R_alloc | apply Kd.R_drewN | apply Kd.R_drew)); exact HO_7.out⟩, ⟨by (with_reducible repeat (first | apply Kd.R_alloc | apply Kd.R_drewN | apply Kd.R_drew)); exact Kd.R_mono HO259.out (fun _ hk => hk.2)⟩, ⟨by (with_reducible repeat (first | apply Kd.R_alloc | apply Kd.R_drewN | apply Kd.R_drew)); exact Kd.R_mono HO262.out (fun _ hk => hk.2)⟩, ⟨by repeat (first | (with_reducible first | exact HB.out | apply below_alloc | apply pw_below_drewN | apply below_drew1) | exact HB.out)⟩⟩
            case round =>
              clear H'
              try clear c1
              try clear c2
              try clear p2
              try clear c4
              try clear c4b0
              try clear c4b1
              try clear c9
              try clear c14
              try clear c20
              try clear c23
              try clear c23b0
              try clear c23b1
              try clear c23b2
              try clear p2
              obtain ⟨x10_2, rfl, HA, HK2, HO_6, HO_7, HO_8, HO_9, HB⟩ := hrel
              cases gk with
              | zero => exact absurd HA.out (by simp [l08_ExtentErases.l0])
              | succ k2 =>
                have H := HA.out
                clear HA
                simp only [l08_ExtentErases.l0] at H
                by_cases c29 : x10_2 < (t257.length : Int)
                · rw [if_pos c29] at H
                  have c29b0 : decide (x10_2 < (t257.length : Int)) = true := decide_eq_true c29
                  clear c29
                  by_cases c30 : 0 ≤ x10_2
                  · rw [if_pos c30] at H
                    have c30b0 : decide (0 ≤ x10_2) = true := decide_eq_true c30
                    clear c30
                    have HC31 := Aside0.mk H
                    clear H
                    have p263 : 0 ≤ (x10_2 : Int) := of_decide_eq_true (by first | (with_reducible assumption) | assumption)
                    have q263 : x10_2 < (t257.length : Int) := of_decide_eq_true (by first | (with_reducible assumption) | assumption)
                    obtain ⟨ad263, e263, hx263_0, hx263_1⟩ := at_T32 (Kd.R_reads' HO_8.out).2.2 x10_2 p263 q263
                    cases e263
                    replace p263 := eq_true p263
                    replace q263 := eq_true q263
                    go_upto_region 15 with (first | ((with_reducible refine gate_dst (N := 11) rfl ?_); refine box_event ?hg (N := 11) ?hd (cs := #[.int .i64 0, .int .i64 0]) (t := 32) ?hr ?_; (case hd => rfl); (case hg => rfl); (case hr => first | (go_simp; done) | (go_simp; rfl)); intro gb264 hg w32 hbox hb; have n0_ := Aside0.mk (Kd.R_below (by (with_reducible repeat (first | apply Kd.R_alloc | apply Kd.R_drewN | apply Kd.R_drew)); exact HO_6.out) hb); have n1_ := Aside0.mk (Kd.R_below (by (with_reducible repeat (first | apply Kd.R_alloc | apply Kd.R_drewN | apply Kd.R_drew)); exact HO_7.out) hb); have n2_ := Aside0.mk (Kd.R_below (Kd.R_elderB (by (with_reducible repeat (first | apply Kd.R_alloc | apply Kd.R_drewN | apply Kd.R_drew)); exact HO_8.out) gb264 (Nat.le_of_eq hg.symm)) hb); have n3_ := Aside0.mk (Kd.R_below (Kd.R_elderB (by (with_reducible repeat (first | apply Kd.R_alloc | apply Kd.R_drewN | apply Kd.R_drew)); exact HO_9.out) gb264 (Nat.le_of_eq hg.symm)) hb); have n4_ := Aside0.mk (below_step (by repeat (first | (with_reducible first | exact HB.out | apply below_alloc | apply pw_below_drewN | apply below_drew1) | exact HB.out)) hb); have n5_ := Aside0.mk (hbox); have n6_ := Aside0.mk ((by rw [hg]; exact (below_size (by repeat (first | (with_reducible first | exact HB.out | apply below_alloc | apply pw_below_drewN | apply below_drew1) | exact HB.out))) : w.heap.size ≤ gb264)); have n7_ := Aside0.mk ((by rw [hg]; exact (below_size (by repeat (first | (with_reducible first | exact HB.out | apply below_alloc | apply pw_below_drewN | apply below_drew1) | exact HB.out))) : w.heap.size ≤ gb264)); clear HO_6; clear HO_7; clear HO_8; clear HO_9; clear HB; have HO_6 := n0_; have HO_7 := n1_; have HO_8 := n2_; have HO_9 := n3_; have HB := n4_; have BK264 := n5_; have GW264 := n6_; have GE264 := n7_; clear n0_ n1_ n2_ n3_ n4_ n5_ n6_ n7_; clear hb hbox hg; have hcz33_0 : w32.cell? ⟨gb264, 0, none⟩ = some (.int .i64 0) := (blk_cell BK264.out 0).trans rfl; have hcz33_1 : w32.cell? ⟨gb264, 1, none⟩ = some (.int .i64 0) := (blk_cell BK264.out 1).trans rfl; have hfz33_0 := blk_frozen BK264.out 0; have hfz33_1 := blk_frozen BK264.out 1))
                    repeat (go_quiet (first | ((with_reducible refine gate_dst (N := 11) rfl ?_); refine box_event ?hg (N := 11) ?hd (cs := #[.int .i64 0, .int .i64 0]) (t := 32) ?hr ?_; (case hd => rfl); (case hg => rfl); (case hr => first | (go_simp; done) | (go_simp; rfl)); intro gb264 hg w32 hbox hb; have n0_ := Aside0.mk (Kd.R_below (by (with_reducible repeat (first | apply Kd.R_alloc | apply Kd.R_drewN | apply Kd.R_drew)); exact HO_6.out) hb); have n1_ := Aside0.mk (Kd.R_below (by (with_reducible repeat (first | apply Kd.R_alloc | apply Kd.R_drewN | apply Kd.R_drew)); exact HO_7.out) hb); have n2_ := Aside0.mk (Kd.R_below (Kd.R_elderB (by (with_reducible repeat (first | apply Kd.R_alloc | apply Kd.R_drewN | apply Kd.R_drew)); exact HO_8.out) gb264 (Nat.le_of_eq hg.symm)) hb); have n3_ := Aside0.mk (Kd.R_below (Kd.R_elderB (by (with_reducible repeat (first | apply Kd.R_alloc | apply Kd.R_drewN | apply Kd.R_drew)); exact HO_9.out) gb264 (Nat.le_of_eq hg.symm)) hb); have n4_ := Aside0.mk (below_step (by repeat (first | (with_reducible first | exact HB.out | apply below_alloc | apply pw_below_drewN | apply below_drew1) | exact HB.out)) hb); have n5_ := Aside0.mk (hbox); have n6_ := Aside0.mk ((by rw [hg]; exact (below_size (by repeat (first | (with_reducible first | exact HB.out | apply below_alloc | apply pw_below_drewN | apply below_drew1) | exact HB.out))) : w.heap.size ≤ gb264)); have n7_ := Aside0.mk ((by rw [hg]; exact (below_size (by repeat (first | (with_reducible first | exact HB.out | apply below_alloc | apply pw_below_drewN | apply below_drew1) | exact HB.out))) : w.heap.size ≤ gb264)); clear HO_6; clear HO_7; clear HO_8; clear HO_9; clear HB; have HO_6 := n0_; have HO_7 := n1_; have HO_8 := n2_; have HO_9 := n3_; have HB := n4_; have BK264 := n5_; have GW264 := n6_; have GE264 := n7_; clear n0_ n1_ n2_ n3_ n4_ n5_ n6_ n7_; clear hb hbox hg; have hcz33_0 : w32.cell? ⟨gb264, 0, none⟩ = some (.int .i64 0) := (blk_cell BK264.out 0).trans rfl; have hcz33_1 : w32.cell? ⟨gb264, 1, none⟩ = some (.int .i64 0) := (blk_cell BK264.out 1).trans rfl; have hfz33_0 := blk_frozen BK264.out 0; have hfz33_1 := blk_frozen BK264.out 1)); go_upto_region 15 with (first | ((with_reducible refine gate_dst (N := 11) rfl ?_); refine box_event ?hg (N := 11) ?hd (cs := #[.int .i64 0, .int .i64 0]) (t := 32) ?hr ?_; (case hd => rfl); (case hg => rfl); (case hr => first | (go_simp; done) | (go_simp; rfl)); intro gb264 hg w32 hbox hb; have n0_ := Aside0.mk (Kd.R_below (by (with_reducible repeat (first | apply Kd.R_alloc | apply Kd.R_drewN | apply Kd.R_drew)); exact HO_6.out) hb); have n1_ := Aside0.mk (Kd.R_below (by (with_reducible repeat (first | apply Kd.R_alloc | apply Kd.R_drewN | apply Kd.R_drew)); exact HO_7.out) hb); have n2_ := Aside0.mk (Kd.R_below (Kd.R_elderB (by (with_reducible repeat (first | apply Kd.R_alloc | apply Kd.R_drewN | apply Kd.R_drew)); exact HO_8.out) gb264 (Nat.le_of_eq hg.symm)) hb); have n3_ := Aside0.mk (Kd.R_below (Kd.R_elderB (by (with_reducible repeat (first | apply Kd.R_alloc | apply Kd.R_drewN | apply Kd.R_drew)); exact HO_9.out) gb264 (Nat.le_of_eq hg.symm)) hb); have n4_ := Aside0.mk (below_step (by repeat (first | (with_reducible first | exact HB.out | apply below_alloc | apply pw_below_drewN | apply below_drew1) | exact HB.out)) hb); have n5_ := Aside0.mk (hbox); have n6_ := Aside0.mk ((by rw [hg]; exact (below_size (by repeat (first | (with_reducible first | exact HB.out | apply below_alloc | apply pw_below_drewN | apply below_drew1) | exact HB.out))) : w.heap.size ≤ gb264)); have n7_ := Aside0.mk ((by rw [hg]; exact (below_size (by repeat (first | (with_reducible first | exact HB.out | apply below_alloc | apply pw_below_drewN | apply below_drew1) | exact HB.out))) : w.heap.size ≤ gb264)); clear HO_6; clear HO_7; clear HO_8; clear HO_9; clear HB; have HO_6 := n0_; have HO_7 := n1_; have HO_8 := n2_; have HO_9 := n3_; have HB := n4_; have BK264 := n5_; have GW264 := n6_; have GE264 := n7_; clear n0_ n1_ n2_ n3_ n4_ n5_ n6_ n7_; clear hb hbox hg; have hcz33_0 : w32.cell? ⟨gb264, 0, none⟩ = some (.int .i64 0) := (blk_cell BK264.out 0).trans rfl; have hcz33_1 : w32.cell? ⟨gb264, 1, none⟩ = some (.int .i64 0) := (blk_cell BK264.out 1).trans rfl; have hfz33_0 := blk_frozen BK264.out 0; have hfz33_1 := blk_frozen BK264.out 1)))
                    (try simp only [Act.put, List.setIfInBounds_toArray, List.set_cons_zero, List.set_cons_succ])
                    go_cut [61] (fun v61 wc => ∃ (kq : Nat) (x61_30 : Bool), v61 = .bool x61_30 ∧ Aside0 (l08_ExtentErases.j2 kq l1 t248 t249 t252 t257 t260 x10_2 x61_30 ((rd_T32 t257 x10_2).f0) ((rd_T32 t257 x10_2).f1) = some r) ∧ Aside0 (kq ≤ k2) ∧ Aside0 (Kd.R k58 58 wc w.heap.size (fun k_ => some k_ ≠ ((.slice Ao25 t252.length co25) : Value).ownBlock) (.slice Ao11 t249.length co11) t249) ∧ Aside0 (Kd.R k58 58 wc w.heap.size (fun k_ => some k_ ≠ ((.slice Ao11 t249.length co11) : Value).ownBlock) (.slice Ao25 t252.length co25) t252) ∧ Aside0 (Kd.R k32 32 wc w.heap.size (fun k_ => some k_ ≠ ((.slice Ao27 t260.length co27) : Value).ownBlock ∧ k_ ≠ gb264) (.slice (some ad263) t257.length co28) t257) ∧ Aside0 (Kd.R k32 32 wc w.heap.size (fun k_ => some k_ ≠ ((.slice (some ad263) t257.length co28) : Value).ownBlock ∧ k_ ≠ gb264) (.slice Ao27 t260.length co27) t260) ∧ Aside0 (wc.heap[gb264]? = some (.cells #[.int .i64 ((rd_T32 t257 x10_2).f0), .int .i64 ((rd_T32 t257 x10_2).f1)] 32 (0, 0))) ∧ Aside0 (Below w.heap.size w wc))
                    case first =>
                      have H := HC31.out
                      clear HC31
                      by_cases c34 : ((rd_T32 t257 x10_2).f0) > 0
                      · rw [if_pos c34] at H
                        have c34b0 : decide (0 < ((rd_T32 t257 x10_2).f0)) = true := decide_eq_true c34
                        clear c34
                        (first | rw [c34b0] | (simp only [i64_w, i32_w]; rw [c34b0]) | skip)
                        replace H := Option.bind_eq_some_iff.mp H
                        obtain ⟨t265, A350, H⟩ := H
                        replace H : (l08_ExtentErases.j2 k2 l1 t248 t249 t252 t257 t260 x10_2 t265 ((rd_T32 t257 x10_2).f0) ((rd_T32 t257 x10_2).f1)) = some r := H
                        have A35 := Aside0.mk A350
                        clear A350
                        have H' := Aside0.mk H
                        clear H
                        have hcz36_0 : w32.cell? ⟨gb264, 0, none⟩ = some (.int .i64 0) := (blk_cell BK264.out 0).trans rfl
                        have hcz36_1 : w32.cell? ⟨gb264, 1, none⟩ = some (.int .i64 0) := (blk_cell BK264.out 1).trans rfl
                        have hfz36_0 := blk_frozen BK264.out 0
                        have hfz36_1 := blk_frozen BK264.out 1
                        go_wp2_with (first | (go_at_call 30; (with_reducible refine (r08_Has.calls k2 _ _ l1 ((rd_T32 t257 x10_2).f0) t265 _ ?side1 ?side2 A35.out).mono ?_); (case side1 => exact Kd.C_below HR1.out (by repeat (first | (with_reducible first | exact HB.out | apply below_alloc | apply pw_below_drewN | apply below_drew1 | refine below_set ?_ GE264.out) | exact HB.out))); (case side2 => exact HC1.out); rintro e w' ⟨rfl, ⟨nd, rfl⟩⟩; (try first | exact ⟨rfl, _, World.drewN_drewN _ _ _⟩ | exact ⟨rfl, _, Eq.trans (World.drewN_drewN _ _ _) (congrArg (World.drewN _) (Nat.add_assoc _ _ _))⟩)))
                        repeat (go_quiet (first | (go_at_call 30; (with_reducible refine (r08_Has.calls k2 _ _ l1 ((rd_T32 t257 x10_2).f0) t265 _ ?side1 ?side2 A35.out).mono ?_); (case side1 => exact Kd.C_below HR1.out (by repeat (first | (with_reducible first | exact HB.out | apply below_alloc | apply pw_below_drewN | apply below_drew1 | refine below_set ?_ GE264.out) | exact HB.out))); (case side2 => exact HC1.out); rintro e w' ⟨rfl, ⟨nd, rfl⟩⟩; (try first | exact ⟨rfl, _, World.drewN_drewN _ _ _⟩ | exact ⟨rfl, _, Eq.trans (World.drewN_drewN _ _ _) (congrArg (World.drewN _) (Nat.add_assoc _ _ _))⟩))); try go_wp2_with (first | (go_at_call 30; (with_reducible refine (r08_Has.calls k2 _ _ l1 ((rd_T32 t257 x10_2).f0) t265 _ ?side1 ?side2 A35.out).mono ?_); (case side1 => exact Kd.C_below HR1.out (by repeat (first | (with_reducible first | exact HB.out | apply below_alloc | apply pw_below_drewN | apply below_drew1 | refine below_set ?_ GE264.out) | exact HB.out))); (case side2 => exact HC1.out); rintro e w' ⟨rfl, ⟨nd, rfl⟩⟩; (try first | exact ⟨rfl, _, World.drewN_drewN _ _ _⟩ | exact ⟨rfl, _, Eq.trans (World.drewN_drewN _ _ _) (congrArg (World.drewN _) (Nat.add_assoc _ _ _))⟩))))
                        go_meet
                        case rel => exact ⟨_, (t265), (by first | rfl | (simp; done) | (simp [*]; done)), H', ⟨by have := HJ7.out; have := HK2.out; first | omega | exact Nat.le_refl _⟩, ⟨by (with_reducible repeat (first | apply Kd.R_alloc | apply Kd.R_drewN | apply Kd.R_drew)); exact Kd.R_mono (Kd.R_far (p := ⟨gb264, 1, none⟩) (Kd.R_far (p := ⟨gb264, 0, none⟩) (Kd.R_types HO_6.out BK264.out (by decide)) (fun _ hk => hk.2) (.int .i64 ((rd_T32 t257 x10_2).f0))) (fun _ hk => hk.2) (.int .i64 ((rd_T32 t257 x10_2).f1))) (fun _ hk => hk.1)⟩, ⟨by (with_reducible repeat (first | apply Kd.R_alloc | apply Kd.R_drewN | apply Kd.R_drew)); exact Kd.R_mono (Kd.R_far (p := ⟨gb264, 1, none⟩) (Kd.R_far (p := ⟨gb264, 0, none⟩) (Kd.R_types HO_7.out BK264.out (by decide)) (fun _ hk => hk.2) (.int .i64 ((rd_T32 t257 x10_2).f0))) (fun _ hk => hk.2) (.int .i64 ((rd_T32 t257 x10_2).f1))) (fun _ hk => hk.1)⟩, ⟨by (with_reducible repeat (first | apply Kd.R_alloc | apply Kd.R_drewN | apply Kd.R_drew)); exact Kd.R_mono (Kd.R_far (p := ⟨gb264, 1, none⟩) (Kd.R_far (p := ⟨gb264, 0, none⟩) (Kd.R_mono HO_8.out (fun k_ hk => (⟨hk, hk.2⟩ : _ ∧ k_ ≠ gb264))) (fun _ hk => hk.2) (.int .i64 ((rd_T32 t257 x10_2).f0))) (fun _ hk => hk.2) (.int .i64 ((rd_T32 t257 x10_2).f1))) (fun _ hk => ⟨hk.1.1, hk.1.2⟩)⟩, ⟨by (with_reducible repeat (first | apply Kd.R_alloc | apply Kd.R_drewN | apply Kd.R_drew)); exact Kd.R_mono (Kd.R_far (p := ⟨gb264, 1, none⟩) (Kd.R_far (p := ⟨gb264, 0, none⟩) (Kd.R_mono HO_9.out (fun k_ hk => (⟨hk, hk.2⟩ : _ ∧ k_ ≠ gb264))) (fun _ hk => hk.2) (.int .i64 ((rd_T32 t257 x10_2).f0))) (fun _ hk => hk.2) (.int .i64 ((rd_T32 t257 x10_2).f1))) (fun _ hk => ⟨hk.1.1, hk.1.2⟩)⟩, ⟨by (with_reducible repeat (first | refine blk_drewN ?_ _ | refine blk_drew ?_ | refine blk_alloc ?_ _)); refine blk_put (cs := #[.int .i64 ((rd_T32 t257 x10_2).f0), .int .i64 0]) ?_ 1 _ rfl; (with_reducible repeat (first | refine blk_drewN ?_ _ | refine blk_drew ?_ | refine blk_alloc ?_ _)); refine blk_put (cs := #[.int .i64 0, .int .i64 0]) ?_ 0 _ rfl; (with_reducible repeat (first | refine blk_drewN ?_ _ | refine blk_drew ?_ | refine blk_alloc ?_ _)); exact BK264.out⟩, ⟨by repeat (first | (with_reducible first | exact HB.out | apply below_alloc | apply pw_below_drewN | apply below_drew1 | refine below_set ?_ GE264.out) | exact HB.out)⟩⟩
                      · rw [if_neg c34] at H
                        have c34b0 : decide (0 < ((rd_T32 t257 x10_2).f0)) = false := decide_eq_false c34
                        clear c34
                        (first | rw [c34b0] | (simp only [i64_w, i32_w]; rw [c34b0]) | skip)
                        have H' := Aside0.mk H
                        clear H
                        have hcz37_0 : w32.cell? ⟨gb264, 0, none⟩ = some (.int .i64 0) := (blk_cell BK264.out 0).trans rfl
                        have hcz37_1 : w32.cell? ⟨gb264, 1, none⟩ = some (.int .i64 0) := (blk_cell BK264.out 1).trans rfl
                        have hfz37_0 := blk_frozen BK264.out 0
                        have hfz37_1 := blk_frozen BK264.out 1
                        go_wp2
                        repeat (go_quiet (fail); try go_wp2)
                        go_meet
                        case rel => exact ⟨_, (false), (by first | rfl | (simp; done) | (simp [*]; done)), H', ⟨by have := HJ7.out; have := HK2.out; first | omega | exact Nat.le_refl _⟩, ⟨by (with_reducible repeat (first | apply Kd.R_alloc | apply Kd.R_drewN | apply Kd.R_drew)); exact Kd.R_mono (Kd.R_far (p := ⟨gb264, 1, none⟩) (Kd.R_far (p := ⟨gb264, 0, none⟩) (Kd.R_types HO_6.out BK264.out (by decide)) (fun _ hk => hk.2) (.int .i64 ((rd_T32 t257 x10_2).f0))) (fun _ hk => hk.2) (.int .i64 ((rd_T32 t257 x10_2).f1))) (fun _ hk => hk.1)⟩, ⟨by (with_reducible repeat (first | apply Kd.R_alloc | apply Kd.R_drewN | apply Kd.R_drew)); exact Kd.R_mono (Kd.R_far (p := ⟨gb264, 1, none⟩) (Kd.R_far (p := ⟨gb264, 0, none⟩) (Kd.R_types HO_7.out BK264.out (by decide)) (fun _ hk => hk.2) (.int .i64 ((rd_T32 t257 x10_2).f0))) (fun _ hk => hk.2) (.int .i64 ((rd_T32 t257 x10_2).f1))) (fun _ hk => hk.1)⟩, ⟨by (with_reducible repeat (first | apply Kd.R_alloc | apply Kd.R_drewN | apply Kd.R_drew)); exact Kd.R_mono (Kd.R_far (p := ⟨gb264, 1, none⟩) (Kd.R_far (p := ⟨gb264, 0, none⟩) (Kd.R_mono HO_8.out (fun k_ hk => (⟨hk, hk.2⟩ : _ ∧ k_ ≠ gb264))) (fun _ hk => hk.2) (.int .i64 ((rd_T32 t257 x10_2).f0))) (fun _ hk => hk.2) (.int .i64 ((rd_T32 t257 x10_2).f1))) (fun _ hk => ⟨hk.1.1, hk.1.2⟩)⟩, ⟨by (with_reducible repeat (first | apply Kd.R_alloc | apply Kd.R_drewN | apply Kd.R_drew)); exact Kd.R_mono (Kd.R_far (p := ⟨gb264, 1, none⟩) (Kd.R_far (p := ⟨gb264, 0, none⟩) (Kd.R_mono HO_9.out (fun k_ hk => (⟨hk, hk.2⟩ : _ ∧ k_ ≠ gb264))) (fun _ hk => hk.2) (.int .i64 ((rd_T32 t257 x10_2).f0))) (fun _ hk => hk.2) (.int .i64 ((rd_T32 t257 x10_2).f1))) (fun _ hk => ⟨hk.1.1, hk.1.2⟩)⟩, ⟨by (with_reducible repeat (first | refine blk_drewN ?_ _ | refine blk_drew ?_ | refine blk_alloc ?_ _)); refine blk_put (cs := #[.int .i64 ((rd_T32 t257 x10_2).f0), .int .i64 0]) ?_ 1 _ rfl; (with_reducible repeat (first | refine blk_drewN ?_ _ | refine blk_drew ?_ | refine blk_alloc ?_ _)); refine blk_put (cs := #[.int .i64 0, .int .i64 0]) ?_ 0 _ rfl; (with_reducible repeat (first | refine blk_drewN ?_ _ | refine blk_drew ?_ | refine blk_alloc ?_ _)); exact BK264.out⟩, ⟨by repeat (first | (with_reducible first | exact HB.out | apply below_alloc | apply pw_below_drewN | apply below_drew1 | refine below_set ?_ GE264.out) | exact HB.out)⟩⟩
                    case rest =>
                      clear HC31
                      try clear c1
                      try clear c2
                      try clear p2
                      try clear q2
                      try clear hx2
                      try clear c3
                      try clear c4
                      try clear c4b0
                      try clear c4b1
                      try clear c9
                      try clear c14
                      try clear c20
                      try clear c23
                      try clear c23b0
                      try clear c23b1
                      try clear c23b2
                      try clear p26
                      try clear q26
                      try clear hx26
                      try clear c29
                      try clear c29b0
                      try clear c30
                      try clear c30b0
                      try clear c34
                      try clear c34b0
                      try clear hcz33_0
                      try clear hcz33_1
                      try clear hcz36_0
                      try clear hcz36_1
                      try clear hcz37_0
                      try clear hcz37_1
                      try clear hfz33_0
                      try clear hfz33_1
                      try clear hfz36_0
                      try clear hfz36_1
                      try clear hfz37_0
                      try clear hfz37_1
                      try clear hx263_0
                      try clear hx263_1
                      try clear p2
                      try clear p263
                      try clear q263
                      obtain ⟨kq, x61_30, rfl, HA, HJ30, HO_6, HO_7, HO_8, HO_9, BK264, HB⟩ := hcut
                      cases kq with
                      | zero => exact absurd HA.out (by simp [l08_ExtentErases.j2])
                      | succ kj30 =>
                        have H := HA.out
                        clear HA
                        simp only [l08_ExtentErases.j2] at H
                        by_cases c38 : x61_30 = true
                        · subst c38
                          have H1 : (if 0 ≤ x10_2 then (if x10_2 < (t260.length : Int) then (if (!(((rd_T32 t260 x10_2).f0) == (-1)) || (!(((rd_T32 t260 x10_2).f1) == 0))) = true then (some false) else (l08_ExtentErases.l0 kj30 l1 t248 t249 t252 t257 t260 (wrap64 (x10_2 + 1)))) else (none)) else (none)) = some r := by rw [if_pos rfl] at H; exact H
                          clear H
                          have H := H1
                          clear H1
                          by_cases c39 : 0 ≤ x10_2
                          · rw [if_pos c39] at H
                            have c39b0 : decide (0 ≤ x10_2) = true := decide_eq_true c39
                            clear c39
                            by_cases c40 : x10_2 < (t260.length : Int)
                            · rw [if_pos c40] at H
                              have c40b0 : decide (x10_2 < (t260.length : Int)) = true := decide_eq_true c40
                              clear c40
                              by_cases c41 : (!(((rd_T32 t260 x10_2).f0) == (-1)) || (!(((rd_T32 t260 x10_2).f1) == 0))) = true
                              · rw [if_pos c41] at H
                                have c41b0 : (!(((rd_T32 t260 x10_2).f0) == (-1)) || (!(((rd_T32 t260 x10_2).f1) == 0))) = true := c41
                                clear c41
                                exact absurd ((Option.some.inj H).trans HLAW.out) (by decide)
                              · rw [if_neg c41] at H
                                have c41b0 : (!(((rd_T32 t260 x10_2).f0) == (-1)) || (!(((rd_T32 t260 x10_2).f1) == 0))) = false := by simpa using c41
                                have c41e : ((rd_T32 t260 x10_2).f0) = (-1) ∧ ((rd_T32 t260 x10_2).f1) = 0 := by simpa using c41
                                have c41e0 := eq_true c41e.1
                                have c41e1 := eq_true c41e.2
                                clear c41e
                                clear c41
                                have H' := Aside0.mk H
                                clear H
                                have hcz42_0 : wc.cell? ⟨gb264, 0, none⟩ = some (.int .i64 ((rd_T32 t257 x10_2).f0)) := (blk_cell BK264.out 0).trans rfl
                                have hcz42_1 : wc.cell? ⟨gb264, 1, none⟩ = some (.int .i64 ((rd_T32 t257 x10_2).f1)) := (blk_cell BK264.out 1).trans rfl
                                have hfz42_0 := blk_frozen BK264.out 0
                                have hfz42_1 := blk_frozen BK264.out 1
                                have p266 : 0 ≤ (x10_2 : Int) := of_decide_eq_true (by first | (with_reducible assumption) | assumption)
                                have q266 : x10_2 < (t260.length : Int) := of_decide_eq_true (by first | (with_reducible assumption) | assumption)
                                obtain ⟨ad266, e266, hx266_0, hx266_1⟩ := at_T32 (Kd.R_reads' HO_9.out).2.2 x10_2 p266 q266
                                cases e266
                                have hn266_0 : ad266.block ≠ gb264 := Kd.own_blk (by first | exact Kd.R_ne HO_9.out BK264.out (by decide) | exact fun h => (HO_9.out.1 _ h.symm).2 rfl | exact fun h => (HO_9.out.1 _ h.symm).1.2 rfl)
                                have hn266_1 : ad266.block ≠ gb264 := Kd.own_blk (by first | exact Kd.R_ne HO_9.out BK264.out (by decide) | exact fun h => (HO_9.out.1 _ h.symm).2 rfl | exact fun h => (HO_9.out.1 _ h.symm).1.2 rfl)
                                replace hx266_0 := (cell_far (p := ⟨gb264, 0, none⟩) (by first | (rw [add_block]; exact hn266_0) | (show (Addr.add _ _).block ≠ _; rw [add_block]; exact hn266_0) | exact hn266_0) (.int .i64 (-1))).trans hx266_0
                                replace hx266_1 := (cell_far (p := ⟨gb264, 0, none⟩) (by first | (rw [add_block]; exact hn266_0) | (show (Addr.add _ _).block ≠ _; rw [add_block]; exact hn266_0) | exact hn266_0) (.int .i64 (-1))).trans hx266_1
                                replace hx266_0 := (cell_far (p := ⟨gb264, 1, none⟩) (by first | (rw [add_block]; exact hn266_1) | (show (Addr.add _ _).block ≠ _; rw [add_block]; exact hn266_1) | exact hn266_1) (.int .i64 0)).trans hx266_0
                                replace hx266_1 := (cell_far (p := ⟨gb264, 1, none⟩) (by first | (rw [add_block]; exact hn266_1) | (show (Addr.add _ _).block ≠ _; rw [add_block]; exact hn266_1) | exact hn266_1) (.int .i64 0)).trans hx266_1
                                (try have hy266_0 := fun (n_ : Nat) => (show ((((wc.drewN n_).setCell ⟨gb264, 0, none⟩ (.int .i64 (-1))).setCell ⟨gb264, 1, none⟩ (.int .i64 0))).cell? _ = some _ from hx266_0))
                                (try have hy266_1 := fun (n_ : Nat) => (show ((((wc.drewN n_).setCell ⟨gb264, 0, none⟩ (.int .i64 (-1))).setCell ⟨gb264, 1, none⟩ (.int .i64 0))).cell? _ = some _ from hx266_1))
                                clear hn266_0
                                clear hn266_1
                                replace p266 := eq_true p266
                                replace q266 := eq_true q266
                                go_wp2
                                repeat (go_quiet (fail); try go_wp2)
                                go_roundg kj30
                                case measure => have := HJ7.out; have := HK2.out; have := HJ30.out; omega
                                case rel => exact ⟨(wrap64 (x10_2 + 1)), (by first | rfl | (simp; done) | (simp [*]; done)), H', ⟨by have := HJ7.out; have := HK2.out; have := HJ30.out; omega⟩, ⟨by (with_reducible repeat (first | apply Kd.R_alloc | apply Kd.R_drewN | apply Kd.R_drew)); exact Kd.R_mono (Kd.R_far (p := ⟨gb264, 1, none⟩) (Kd.R_far (p := ⟨gb264, 0, none⟩) (Kd.R_types HO_6.out BK264.out (by decide)) (fun _ hk => hk.2) (.int .i64 (-1))) (fun _ hk => hk.2) (.int .i64 0)) (fun _ hk => hk.1)⟩, ⟨by (with_reducible repeat (first | apply Kd.R_alloc | apply Kd.R_drewN | apply Kd.R_drew)); exact Kd.R_mono (Kd.R_far (p := ⟨gb264, 1, none⟩) (Kd.R_far (p := ⟨gb264, 0, none⟩) (Kd.R_types HO_7.out BK264.out (by decide)) (fun _ hk => hk.2) (.int .i64 (-1))) (fun _ hk => hk.2) (.int .i64 0)) (fun _ hk => hk.1)⟩, ⟨by (with_reducible repeat (first | apply Kd.R_alloc | apply Kd.R_drewN | apply Kd.R_drew)); exact Kd.R_mono (Kd.R_far (p := ⟨gb264, 1, none⟩) (Kd.R_far (p := ⟨gb264, 0, none⟩) (Kd.R_mono HO_8.out (fun k_ hk => (⟨hk, hk.2⟩ : _ ∧ k_ ≠ gb264))) (fun _ hk => hk.2) (.int .i64 (-1))) (fun _ hk => hk.2) (.int .i64 0)) (fun _ hk => hk.1.1)⟩, ⟨by (with_reducible repeat (first | apply Kd.R_alloc | apply Kd.R_drewN | apply Kd.R_drew)); exact Kd.R_mono (Kd.R_far (p := ⟨gb264, 1, none⟩) (Kd.R_far (p := ⟨gb264, 0, none⟩) (Kd.R_mono HO_9.out (fun k_ hk => (⟨hk, hk.2⟩ : _ ∧ k_ ≠ gb264))) (fun _ hk => hk.2) (.int .i64 (-1))) (fun _ hk => hk.2) (.int .i64 0)) (fun _ hk => hk.1.1)⟩, ⟨by repeat (first | (with_reducible first | exact HB.out | apply below_alloc | apply pw_below_drewN | apply below_drew1 | refine below_set ?_ GE264.out) | exact HB.out)⟩⟩
                            · rw [if_neg c40] at H
                              exact absurd H (by simp)
                          · rw [if_neg c39] at H
                            exact absurd H (by simp)
                        · replace c38 := Bool.eq_false_iff.mpr c38
                          subst c38
                          have H1 : (if 0 ≤ x10_2 then (if x10_2 < (t260.length : Int) then (if (!(((rd_T32 t260 x10_2).f0) == ((rd_T32 t257 x10_2).f0)) || (!(((rd_T32 t260 x10_2).f1) == ((rd_T32 t257 x10_2).f1)))) = true then (some false) else (l08_ExtentErases.l0 kj30 l1 t248 t249 t252 t257 t260 (wrap64 (x10_2 + 1)))) else (none)) else (none)) = some r := by rw [if_neg (show ¬ (false = true) by decide)] at H; exact H
                          clear H
                          have H := H1
                          clear H1
                          by_cases c43 : 0 ≤ x10_2
                          · rw [if_pos c43] at H
                            have c43b0 : decide (0 ≤ x10_2) = true := decide_eq_true c43
                            clear c43
                            by_cases c44 : x10_2 < (t260.length : Int)
                            · rw [if_pos c44] at H
                              have c44b0 : decide (x10_2 < (t260.length : Int)) = true := decide_eq_true c44
                              clear c44
                              by_cases c45 : (!(((rd_T32 t260 x10_2).f0) == ((rd_T32 t257 x10_2).f0)) || (!(((rd_T32 t260 x10_2).f1) == ((rd_T32 t257 x10_2).f1)))) = true
                              · rw [if_pos c45] at H
                                have c45b0 : (!(((rd_T32 t260 x10_2).f0) == ((rd_T32 t257 x10_2).f0)) || (!(((rd_T32 t260 x10_2).f1) == ((rd_T32 t257 x10_2).f1)))) = true := c45
                                clear c45
                                exact absurd ((Option.some.inj H).trans HLAW.out) (by decide)
                              · rw [if_neg c45] at H
                                have c45b0 : (!(((rd_T32 t260 x10_2).f0) == ((rd_T32 t257 x10_2).f0)) || (!(((rd_T32 t260 x10_2).f1) == ((rd_T32 t257 x10_2).f1)))) = false := by simpa using c45
                                have c45e : ((rd_T32 t260 x10_2).f0) = ((rd_T32 t257 x10_2).f0) ∧ ((rd_T32 t260 x10_2).f1) = ((rd_T32 t257 x10_2).f1) := by simpa using c45
                                have c45e0 := eq_true c45e.1
                                have c45e1 := eq_true c45e.2
                                clear c45e
                                clear c45
                                have H' := Aside0.mk H
                                clear H
                                have p267 : 0 ≤ (x10_2 : Int) := of_decide_eq_true (by first | (with_reducible assumption) | assumption)
                                have q267 : x10_2 < (t260.length : Int) := of_decide_eq_true (by first | (with_reducible assumption) | assumption)
                                obtain ⟨ad267, e267, hx267_0, hx267_1⟩ := at_T32 (Kd.R_reads' HO_9.out).2.2 x10_2 p267 q267
                                cases e267
                                replace p267 := eq_true p267
                                replace q267 := eq_true q267
                                have hcz46_0 : wc.cell? ⟨gb264, 0, none⟩ = some (.int .i64 ((rd_T32 t257 x10_2).f0)) := (blk_cell BK264.out 0).trans rfl
                                have hcz46_1 : wc.cell? ⟨gb264, 1, none⟩ = some (.int .i64 ((rd_T32 t257 x10_2).f1)) := (blk_cell BK264.out 1).trans rfl
                                have hfz46_0 := blk_frozen BK264.out 0
                                have hfz46_1 := blk_frozen BK264.out 1
                                go_wp2
                                repeat (go_quiet (fail); try go_wp2)
                                go_roundg kj30
                                case measure => have := HJ7.out; have := HK2.out; have := HJ30.out; omega
                                case rel => exact ⟨(wrap64 (x10_2 + 1)), (by first | rfl | (simp; done) | (simp [*]; done)), H', ⟨by have := HJ7.out; have := HK2.out; have := HJ30.out; omega⟩, ⟨by (with_reducible repeat (first | apply Kd.R_alloc | apply Kd.R_drewN | apply Kd.R_drew)); exact HO_6.out⟩, ⟨by (with_reducible repeat (first | apply Kd.R_alloc | apply Kd.R_drewN | apply Kd.R_drew)); exact HO_7.out⟩, ⟨by (with_reducible repeat (first | apply Kd.R_alloc | apply Kd.R_drewN | apply Kd.R_drew)); exact Kd.R_mono HO_8.out (fun _ hk => hk.1)⟩, ⟨by (with_reducible repeat (first | apply Kd.R_alloc | apply Kd.R_drewN | apply Kd.R_drew)); exact Kd.R_mono HO_9.out (fun _ hk => hk.1)⟩, ⟨by repeat (first | (with_reducible first | exact HB.out | apply below_alloc | apply pw_below_drewN | apply below_drew1 | refine below_set ?_ GE264.out) | exact HB.out)⟩⟩
                            · rw [if_neg c44] at H
                              exact absurd H (by simp)
                          · rw [if_neg c43] at H
                            exact absurd H (by simp)
                  · rw [if_neg c30] at H
                    exact absurd H (by simp)
                · rw [if_neg c29] at H
                  have c29b0 : decide (x10_2 < (t257.length : Int)) = false := decide_eq_false c29
                  clear c29
                  replace H := Option.bind_eq_some_iff.mp H
                  obtain ⟨t268, A470, H⟩ := H
                  replace H : ((extent_Used.f t252).bind fun t271 => (l08_ExtentErases.l1 k2 l1 t248 t252 t268 t271 1)) = some r := H
                  have A47 := Aside0.mk A470
                  clear A470
                  replace H := Option.bind_eq_some_iff.mp H
                  obtain ⟨t271, A480, H⟩ := H
                  replace H : (l08_ExtentErases.l1 k2 l1 t248 t252 t268 t271 1) = some r := H
                  have A48 := Aside0.mk A480
                  clear A480
                  have H' := Aside0.mk H
                  clear H
                  go_wp2_with (first | (go_at_call 31; (with_reducible refine (extent_Used.calls _ _ t249 t268 _ ?side1 ?side2 A47.out).mono ?_); (case side1 => repeat (first | exact (Kd.R_reads' HO_6.out).2.2 | (with_reducible refine Kd.C_alloc ?_ _) | (with_reducible refine Kd.C_drewN ?_ _) | (with_reducible refine Kd.C_drew ?_))); (case side2 => exact (Kd.R_reads' HO_6.out).2.1); rintro e w49 ⟨v269, rfl, ho0, hb⟩; have n0_ := Aside0.mk (Kd.R_below (by (with_reducible repeat (first | apply Kd.R_alloc | apply Kd.R_drewN | apply Kd.R_drew)); exact HO_6.out) hb); have n1_ := Aside0.mk (Kd.R_below (by (with_reducible repeat (first | apply Kd.R_alloc | apply Kd.R_drewN | apply Kd.R_drew)); exact HO_7.out) hb); have n2_ := Aside0.mk (Kd.R_below (by (with_reducible repeat (first | apply Kd.R_alloc | apply Kd.R_drewN | apply Kd.R_drew)); exact HO_8.out) hb); have n3_ := Aside0.mk (Kd.R_below (by (with_reducible repeat (first | apply Kd.R_alloc | apply Kd.R_drewN | apply Kd.R_drew)); exact HO_9.out) hb); have n4_ := Aside0.mk (Kd.R_lower ho0 (below_size (by repeat (first | (with_reducible first | exact HB.out | apply below_alloc | apply pw_below_drewN | apply below_drew1) | exact HB.out)))); have n5_ := Aside0.mk (below_step (by repeat (first | (with_reducible first | exact HB.out | apply below_alloc | apply pw_below_drewN | apply below_drew1) | exact HB.out)) hb); clear HO_6; clear HO_7; clear HO_8; clear HO_9; clear HB; have HO_6 := n0_; have HO_7 := n1_; have HO_8 := n2_; have HO_9 := n3_; have HO270 := n4_; have HB := n5_; clear n0_ n1_ n2_ n3_ n4_ n5_; (try clear hb); (try clear hb2); (try clear hk); (try clear hi); (try clear ho0)) | (go_at_call 31; (with_reducible refine (extent_Used.calls _ _ t252 t271 _ ?side1 ?side2 A48.out).mono ?_); (case side1 => repeat (first | exact (Kd.R_reads' HO_7.out).2.2 | (with_reducible refine Kd.C_alloc ?_ _) | (with_reducible refine Kd.C_drewN ?_ _) | (with_reducible refine Kd.C_drew ?_))); (case side2 => exact (Kd.R_reads' HO_7.out).2.1); rintro e w50 ⟨v272, rfl, ho0, hb⟩; have n0_ := Aside0.mk (Kd.R_below (by (with_reducible repeat (first | apply Kd.R_alloc | apply Kd.R_drewN | apply Kd.R_drew)); exact HO_6.out) hb); have n1_ := Aside0.mk (Kd.R_below (by (with_reducible repeat (first | apply Kd.R_alloc | apply Kd.R_drewN | apply Kd.R_drew)); exact HO_7.out) hb); have n2_ := Aside0.mk (Kd.R_below (by (with_reducible repeat (first | apply Kd.R_alloc | apply Kd.R_drewN | apply Kd.R_drew)); exact HO_8.out) hb); have n3_ := Aside0.mk (Kd.R_below (by (with_reducible repeat (first | apply Kd.R_alloc | apply Kd.R_drewN | apply Kd.R_drew)); exact HO_9.out) hb); have n4_ := Aside0.mk (Kd.R_elder' (by (with_reducible repeat (first | apply Kd.R_alloc | apply Kd.R_drewN | apply Kd.R_drew)); exact HO270.out) (Kd.R_base ho0) hb); have n5_ := Aside0.mk (Kd.R_lower (Kd.R_new' ho0 (Kd.R_lt (by (with_reducible repeat (first | apply Kd.R_alloc | apply Kd.R_drewN | apply Kd.R_drew)); exact HO270.out))) (below_size (by repeat (first | (with_reducible first | exact HB.out | apply below_alloc | apply pw_below_drewN | apply below_drew1) | exact HB.out)))); have n6_ := Aside0.mk (below_step (by repeat (first | (with_reducible first | exact HB.out | apply below_alloc | apply pw_below_drewN | apply below_drew1) | exact HB.out)) hb); clear HO_6; clear HO_7; clear HO_8; clear HO_9; clear HO270; clear HB; have HO_6 := n0_; have HO_7 := n1_; have HO_8 := n2_; have HO_9 := n3_; have HO270 := n4_; have HO273 := n5_; have HB := n6_; clear n0_ n1_ n2_ n3_ n4_ n5_ n6_; (try clear hb); (try clear hb2); (try clear hk); (try clear hi); (try clear ho0)))
                  repeat (go_quiet (first | (go_at_call 31; (with_reducible refine (extent_Used.calls _ _ t249 t268 _ ?side1 ?side2 A47.out).mono ?_); (case side1 => repeat (first | exact (Kd.R_reads' HO_6.out).2.2 | (with_reducible refine Kd.C_alloc ?_ _) | (with_reducible refine Kd.C_drewN ?_ _) | (with_reducible refine Kd.C_drew ?_))); (case side2 => exact (Kd.R_reads' HO_6.out).2.1); rintro e w49 ⟨v269, rfl, ho0, hb⟩; have n0_ := Aside0.mk (Kd.R_below (by (with_reducible repeat (first | apply Kd.R_alloc | apply Kd.R_drewN | apply Kd.R_drew)); exact HO_6.out) hb); have n1_ := Aside0.mk (Kd.R_below (by (with_reducible repeat (first | apply Kd.R_alloc | apply Kd.R_drewN | apply Kd.R_drew)); exact HO_7.out) hb); have n2_ := Aside0.mk (Kd.R_below (by (with_reducible repeat (first | apply Kd.R_alloc | apply Kd.R_drewN | apply Kd.R_drew)); exact HO_8.out) hb); have n3_ := Aside0.mk (Kd.R_below (by (with_reducible repeat (first | apply Kd.R_alloc | apply Kd.R_drewN | apply Kd.R_drew)); exact HO_9.out) hb); have n4_ := Aside0.mk (Kd.R_lower ho0 (below_size (by repeat (first | (with_reducible first | exact HB.out | apply below_alloc | apply pw_below_drewN | apply below_drew1) | exact HB.out)))); have n5_ := Aside0.mk (below_step (by repeat (first | (with_reducible first | exact HB.out | apply below_alloc | apply pw_below_drewN | apply below_drew1) | exact HB.out)) hb); clear HO_6; clear HO_7; clear HO_8; clear HO_9; clear HB; have HO_6 := n0_; have HO_7 := n1_; have HO_8 := n2_; have HO_9 := n3_; have HO270 := n4_; have HB := n5_; clear n0_ n1_ n2_ n3_ n4_ n5_; (try clear hb); (try clear hb2); (try clear hk); (try clear hi); (try clear ho0)) | (go_at_call 31; (with_reducible refine (extent_Used.calls _ _ t252 t271 _ ?side1 ?side2 A48.out).mono ?_); (case side1 => repeat (first | exact (Kd.R_reads' HO_7.out).2.2 | (with_reducible refine Kd.C_alloc ?_ _) | (with_reducible refine Kd.C_drewN ?_ _) | (with_reducible refine Kd.C_drew ?_))); (case side2 => exact (Kd.R_reads' HO_7.out).2.1); rintro e w50 ⟨v272, rfl, ho0, hb⟩; have n0_ := Aside0.mk (Kd.R_below (by (with_reducible repeat (first | apply Kd.R_alloc | apply Kd.R_drewN | apply Kd.R_drew)); exact HO_6.out) hb); have n1_ := Aside0.mk (Kd.R_below (by (with_reducible repeat (first | apply Kd.R_alloc | apply Kd.R_drewN | apply Kd.R_drew)); exact HO_7.out) hb); have n2_ := Aside0.mk (Kd.R_below (by (with_reducible repeat (first | apply Kd.R_alloc | apply Kd.R_drewN | apply Kd.R_drew)); exact HO_8.out) hb); have n3_ := Aside0.mk (Kd.R_below (by (with_reducible repeat (first | apply Kd.R_alloc | apply Kd.R_drewN | apply Kd.R_drew)); exact HO_9.out) hb); have n4_ := Aside0.mk (Kd.R_elder' (by (with_reducible repeat (first | apply Kd.R_alloc | apply Kd.R_drewN | apply Kd.R_drew)); exact HO270.out) (Kd.R_base ho0) hb); have n5_ := Aside0.mk (Kd.R_lower (Kd.R_new' ho0 (Kd.R_lt (by (with_reducible repeat (first | apply Kd.R_alloc | apply Kd.R_drewN | apply Kd.R_drew)); exact HO270.out))) (below_size (by repeat (first | (with_reducible first | exact HB.out | apply below_alloc | apply pw_below_drewN | apply below_drew1) | exact HB.out)))); have n6_ := Aside0.mk (below_step (by repeat (first | (with_reducible first | exact HB.out | apply below_alloc | apply pw_below_drewN | apply below_drew1) | exact HB.out)) hb); clear HO_6; clear HO_7; clear HO_8; clear HO_9; clear HO270; clear HB; have HO_6 := n0_; have HO_7 := n1_; have HO_8 := n2_; have HO_9 := n3_; have HO270 := n4_; have HO273 := n5_; have HB := n6_; clear n0_ n1_ n2_ n3_ n4_ n5_ n6_; (try clear hb); (try clear hb2); (try clear hk); (try clear hi); (try clear ho0))); try go_wp2_with (first | (go_at_call 31; (with_reducible refine (extent_Used.calls _ _ t249 t268 _ ?side1 ?side2 A47.out).mono ?_); (case side1 => repeat (first | exact (Kd.R_reads' HO_6.out).2.2 | (with_reducible refine Kd.C_alloc ?_ _) | (with_reducible refine Kd.C_drewN ?_ _) | (with_reducible refine Kd.C_drew ?_))); (case side2 => exact (Kd.R_reads' HO_6.out).2.1); rintro e w49 ⟨v269, rfl, ho0, hb⟩; have n0_ := Aside0.mk (Kd.R_below (by (with_reducible repeat (first | apply Kd.R_alloc | apply Kd.R_drewN | apply Kd.R_drew)); exact HO_6.out) hb); have n1_ := Aside0.mk (Kd.R_below (by (with_reducible repeat (first | apply Kd.R_alloc | apply Kd.R_drewN | apply Kd.R_drew)); exact HO_7.out) hb); have n2_ := Aside0.mk (Kd.R_below (by (with_reducible repeat (first | apply Kd.R_alloc | apply Kd.R_drewN | apply Kd.R_drew)); exact HO_8.out) hb); have n3_ := Aside0.mk (Kd.R_below (by (with_reducible repeat (first | apply Kd.R_alloc | apply Kd.R_drewN | apply Kd.R_drew)); exact HO_9.out) hb); have n4_ := Aside0.mk (Kd.R_lower ho0 (below_size (by repeat (first | (with_reducible first | exact HB.out | apply below_alloc | apply pw_below_drewN | apply below_drew1) | exact HB.out)))); have n5_ := Aside0.mk (below_step (by repeat (first | (with_reducible first | exact HB.out | apply below_alloc | apply pw_below_drewN | apply below_drew1) | exact HB.out)) hb); clear HO_6; clear HO_7; clear HO_8; clear HO_9; clear HB; have HO_6 := n0_; have HO_7 := n1_; have HO_8 := n2_; have HO_9 := n3_; have HO270 := n4_; have HB := n5_; clear n0_ n1_ n2_ n3_ n4_ n5_; (try clear hb); (try clear hb2); (try clear hk); (try clear hi); (try clear ho0)) | (go_at_call 31; (with_reducible refine (extent_Used.calls _ _ t252 t271 _ ?side1 ?side2 A48.out).mono ?_); (case side1 => repeat (first | exact (Kd.R_reads' HO_7.out).2.2 | (with_reducible refine Kd.C_alloc ?_ _) | (with_reducible refine Kd.C_drewN ?_ _) | (with_reducible refine Kd.C_drew ?_))); (case side2 => exact (Kd.R_reads' HO_7.out).2.1); rintro e w50 ⟨v272, rfl, ho0, hb⟩; have n0_ := Aside0.mk (Kd.R_below (by (with_reducible repeat (first | apply Kd.R_alloc | apply Kd.R_drewN | apply Kd.R_drew)); exact HO_6.out) hb); have n1_ := Aside0.mk (Kd.R_below (by (with_reducible repeat (first | apply Kd.R_alloc | apply Kd.R_drewN | apply Kd.R_drew)); exact HO_7.out) hb); have n2_ := Aside0.mk (Kd.R_below (by (with_reducible repeat (first | apply Kd.R_alloc | apply Kd.R_drewN | apply Kd.R_drew)); exact HO_8.out) hb); have n3_ := Aside0.mk (Kd.R_below (by (with_reducible repeat (first | apply Kd.R_alloc | apply Kd.R_drewN | apply Kd.R_drew)); exact HO_9.out) hb); have n4_ := Aside0.mk (Kd.R_elder' (by (with_reducible repeat (first | apply Kd.R_alloc | apply Kd.R_drewN | apply Kd.R_drew)); exact HO270.out) (Kd.R_base ho0) hb); have n5_ := Aside0.mk (Kd.R_lower (Kd.R_new' ho0 (Kd.R_lt (by (with_reducible repeat (first | apply Kd.R_alloc | apply Kd.R_drewN | apply Kd.R_drew)); exact HO270.out))) (below_size (by repeat (first | (with_reducible first | exact HB.out | apply below_alloc | apply pw_below_drewN | apply below_drew1) | exact HB.out)))); have n6_ := Aside0.mk (below_step (by repeat (first | (with_reducible first | exact HB.out | apply below_alloc | apply pw_below_drewN | apply below_drew1) | exact HB.out)) hb); clear HO_6; clear HO_7; clear HO_8; clear HO_9; clear HO270; clear HB; have HO_6 := n0_; have HO_7 := n1_; have HO_8 := n2_; have HO_9 := n3_; have HO270 := n4_; have HO273 := n5_; have HB := n6_; clear n0_ n1_ n2_ n3_ n4_ n5_ n6_; (try clear hb); (try clear hb2); (try clear hk); (try clear hi); (try clear ho0))))
                  go_loopg [14] k2 (fun kq v14 w' => ∃ (x14_3 : Int), v14 = .int .i64 x14_3 ∧ Aside0 (l08_ExtentErases.l1 kq l1 t248 t252 t268 t271 x14_3 = some r) ∧ Aside0 (kq ≤ k2) ∧ Aside0 (Kd.R k58 58 w' w.heap.size (fun _ => True) (.slice Ao25 t252.length co25) t252) ∧ Aside0 (Kd.R (Kd.int .i64) 3 w' w.heap.size (fun k_ => some k_ ≠ (v272 : Value).ownBlock) v269 t268) ∧ Aside0 (Kd.R (Kd.int .i64) 3 w' w.heap.size (fun k_ => some k_ ≠ (v269 : Value).ownBlock) v272 t271) ∧ Aside0 (Below w.heap.size w w'))
                  case atStart => exact ⟨(1), (by first | rfl | (simp; done) | (simp [*]; done)), H', ⟨Nat.le_refl _⟩, ⟨by (with_reducible repeat (first | apply Kd.R_alloc | apply Kd.R_drewN | apply Kd.R_drew)); exact Kd.R_mono HO_7.out (fun _ hk => trivial)⟩, ⟨by (with_reducible repeat (first | apply Kd.R_alloc | apply Kd.R_drewN | apply Kd.R_drew)); exact Kd.R_mono HO270.out (fun _ hk => hk.2)⟩, ⟨by (with_reducible repeat (first | apply Kd.R_alloc | apply Kd.R_drewN | apply Kd.R_drew)); exact Kd.R_mono HO273.out (fun _ hk => hk.2)⟩, ⟨by repeat (first | (with_reducible first | exact HB.out | apply below_alloc | apply pw_below_drewN | apply below_drew1) | exact HB.out)⟩⟩
                  case round =>
                    clear H'
                    try clear c1
                    try clear c2
                    try clear p2
                    try clear q2
                    try clear hx2
                    try clear c3
                    try clear c4
                    try clear c4b0
                    try clear c4b1
                    try clear p6
                    try clear c9
                    try clear c14
                    try clear c20
                    try clear c23
                    try clear c23b0
                    try clear c23b1
                    try clear c23b2
                    try clear p26
                    try clear q26
                    try clear hx26
                    try clear c29
                    try clear c29b0
                    try clear c30
                    try clear c30b0
                    try clear c34
                    try clear c34b0
                    try clear c38
                    try clear c39
                    try clear c39b0
                    try clear c40
                    try clear c40b0
                    try clear c41
                    try clear c41b0
                    try clear c43
                    try clear c43b0
                    try clear c44
                    try clear c44b0
                    try clear c45
                    try clear c45b0
                    try clear hcz33_0
                    try clear hcz33_1
                    try clear hcz36_0
                    try clear hcz36_1
                    try clear hcz37_0
                    try clear hcz37_1
                    try clear hcz42_0
                    try clear hcz42_1
                    try clear hcz46_0
                    try clear hcz46_1
                    try clear hfz33_0
                    try clear hfz33_1
                    try clear hfz36_0
                    try clear hfz36_1
                    try clear hfz37_0
                    try clear hfz37_1
                    try clear hfz42_0
                    try clear hfz42_1
                    try clear hfz46_0
                    try clear hfz46_1
                    try clear hx263_0
                    try clear hx263_1
                    try clear hx266_0
                    try clear hx266_1
                    try clear hx267_0
                    try clear hx267_1
                    try clear p2
                    try clear p26
                    try clear p263
                    try clear p266
                    try clear p267
                    try clear q2
                    try clear q26
                    try clear q263
                    try clear q266
                    try clear q267
                    obtain ⟨x14_3, rfl, HA, HK3, HO_7, HO_12, HO_13, HB⟩ := hrel
                    cases gk with
                    | zero => exact absurd HA.out (by simp [l08_ExtentErases.l1])
                    | succ k3 =>
                      have H := HA.out
                      clear HA
                      simp only [l08_ExtentErases.l1] at H
                      by_cases c51 : x14_3 < 6
                      · rw [if_pos c51] at H
                        have c51b0 : decide (x14_3 < 6) = true := decide_eq_true c51
                        clear c51
                        replace H := Option.bind_eq_some_iff.mp H
                        obtain ⟨t274, A520, H⟩ := H
                        replace H : ((r08_Has.f k3 t268 x14_3).bind fun t275 => (if t275 = true then ((r08_Has.f k3 l1 x14_3).bind fun t276 => (if (t274 != (!t276)) = true then (some false) else (l08_ExtentErases.l1 k3 l1 t248 t252 t268 t271 (wrap64 (x14_3 + 1))))) else (if (t274 != false) = true then (some false) else (l08_ExtentErases.l1 k3 l1 t248 t252 t268 t271 (wrap64 (x14_3 + 1)))))) = some r := H
                        have A52 := Aside0.mk A520
                        clear A520
                        replace H := Option.bind_eq_some_iff.mp H
                        obtain ⟨t275, A530, H⟩ := H
                        replace H : (if t275 = true then ((r08_Has.f k3 l1 x14_3).bind fun t276 => (if (t274 != (!t276)) = true then (some false) else (l08_ExtentErases.l1 k3 l1 t248 t252 t268 t271 (wrap64 (x14_3 + 1))))) else (if (t274 != false) = true then (some false) else (l08_ExtentErases.l1 k3 l1 t248 t252 t268 t271 (wrap64 (x14_3 + 1))))) = some r := H
                        have A53 := Aside0.mk A530
                        clear A530
                        by_cases c54 : t275 = true
                        · subst c54
                          have H1 : ((r08_Has.f k3 l1 x14_3).bind fun t276 => (if (t274 != (!t276)) = true then (some false) else (l08_ExtentErases.l1 k3 l1 t248 t252 t268 t271 (wrap64 (x14_3 + 1))))) = some r := by rw [if_pos rfl] at H; exact H
                          clear H
                          have H := H1
                          clear H1
                          replace H := Option.bind_eq_some_iff.mp H
                          obtain ⟨t276, A550, H⟩ := H
                          replace H : (if (t274 != (!t276)) = true then (some false) else (l08_ExtentErases.l1 k3 l1 t248 t252 t268 t271 (wrap64 (x14_3 + 1)))) = some r := H
                          have A55 := Aside0.mk A550
                          clear A550
                          by_cases c56 : (t274 != (!t276)) = true
                          · rw [if_pos c56] at H
                            have c56b0 : (t274 != (!t276)) = true := c56
                            (try (have c56b1 : decide (t274 = (!t276)) = false := by simpa using c56))
                            (try (have c56b2 : (t274 == (!t276)) = false := by simpa using c56))
                            (try (have c56b3 : ¬ (t274 = (!t276)) := by simpa using c56))
                            clear c56
                            exact absurd ((Option.some.inj H).trans HLAW.out) (by decide)
                          · rw [if_neg c56] at H
                            have c56b0 : (t274 != (!t276)) = false := by simpa using c56
                            have c56b3 : (t274 == t276) = false := by revert c56b0; cases t274 <;> cases t276 <;> decide
                            have c56b4 : decide (t274 = t276) = false := by revert c56b0; cases t274 <;> cases t276 <;> decide
                            have c56b5 : (t274 == (!t276)) = true := by revert c56b0; cases t274 <;> cases t276 <;> decide
                            have c56b6 : decide (t274 = (!t276)) = true := by revert c56b0; cases t274 <;> cases t276 <;> decide
                            have c56b7 : (t274 != t276) = true := by revert c56b0; cases t274 <;> cases t276 <;> decide
                            have c56b8 : ¬ (t274 = t276) := by revert c56b0; cases t274 <;> cases t276 <;> decide
                            (try (have c56b1 : decide (t274 = (!t276)) = true := by simpa using c56))
                            (try (have c56b2 : (t274 == (!t276)) = true := by simpa using c56))
                            clear c56
                            have H' := Aside0.mk H
                            clear H
                            obtain ⟨Ao57, co57, eo57⟩ := Kd.R_slice HO_13.out
                            subst eo57
                            go_wp2_with (first | (go_at_call 30; (with_reducible refine (r08_Has.calls k3 _ _ t271 x14_3 t274 _ ?side1 ?side2 A52.out).mono ?_); (case side1 => repeat (first | exact (Kd.R_reads' HO_13.out).2.2 | (with_reducible refine Kd.C_alloc ?_ _) | (with_reducible refine Kd.C_drewN ?_ _) | (with_reducible refine Kd.C_drew ?_))); (case side2 => exact (Kd.R_reads' HO_13.out).2.1); rintro e w' ⟨rfl, ⟨nd, rfl⟩⟩; (try first | exact ⟨rfl, _, World.drewN_drewN _ _ _⟩ | exact ⟨rfl, _, Eq.trans (World.drewN_drewN _ _ _) (congrArg (World.drewN _) (Nat.add_assoc _ _ _))⟩); obtain ⟨Ao58, co58, eo58⟩ := Kd.R_slice HO_12.out; subst eo58) | (go_at_call 30; (with_reducible refine (r08_Has.calls k3 _ _ t268 x14_3 true _ ?side1 ?side2 A53.out).mono ?_); (case side1 => repeat (first | exact (Kd.R_reads' HO_12.out).2.2 | (with_reducible refine Kd.C_alloc ?_ _) | (with_reducible refine Kd.C_drewN ?_ _) | (with_reducible refine Kd.C_drew ?_))); (case side2 => exact (Kd.R_reads' HO_12.out).2.1); rintro e w' ⟨rfl, ⟨nd, rfl⟩⟩; (try first | exact ⟨rfl, _, World.drewN_drewN _ _ _⟩ | exact ⟨rfl, _, Eq.trans (World.drewN_drewN _ _ _) (congrArg (World.drewN _) (Nat.add_assoc _ _ _))⟩)) | (go_at_call 30; (with_reducible refine (r08_Has.calls k3 _ _ l1 x14_3 t276 _ ?side1 ?side2 A55.out).mono ?_); (case side1 => repeat (first | exact (Kd.C_below HR1.out (by repeat (first | (with_reducible first | exact HB.out | apply below_alloc | apply pw_below_drewN | apply below_drew1) | exact HB.out))) | (with_reducible refine Kd.C_alloc ?_ _) | (with_reducible refine Kd.C_drewN ?_ _) | (with_reducible refine Kd.C_drew ?_))); (case side2 => exact HC1.out); rintro e w' ⟨rfl, ⟨nd, rfl⟩⟩; (try first | exact ⟨rfl, _, World.drewN_drewN _ _ _⟩ | exact ⟨rfl, _, Eq.trans (World.drewN_drewN _ _ _) (congrArg (World.drewN _) (Nat.add_assoc _ _ _))⟩)))
                            repeat (go_quiet (first | (go_at_call 30; (with_reducible refine (r08_Has.calls k3 _ _ t271 x14_3 t274 _ ?side1 ?side2 A52.out).mono ?_); (case side1 => repeat (first | exact (Kd.R_reads' HO_13.out).2.2 | (with_reducible refine Kd.C_alloc ?_ _) | (with_reducible refine Kd.C_drewN ?_ _) | (with_reducible refine Kd.C_drew ?_))); (case side2 => exact (Kd.R_reads' HO_13.out).2.1); rintro e w' ⟨rfl, ⟨nd, rfl⟩⟩; (try first | exact ⟨rfl, _, World.drewN_drewN _ _ _⟩ | exact ⟨rfl, _, Eq.trans (World.drewN_drewN _ _ _) (congrArg (World.drewN _) (Nat.add_assoc _ _ _))⟩); obtain ⟨Ao58, co58, eo58⟩ := Kd.R_slice HO_12.out; subst eo58) | (go_at_call 30; (with_reducible refine (r08_Has.calls k3 _ _ t268 x14_3 true _ ?side1 ?side2 A53.out).mono ?_); (case side1 => repeat (first | exact (Kd.R_reads' HO_12.out).2.2 | (with_reducible refine Kd.C_alloc ?_ _) | (with_reducible refine Kd.C_drewN ?_ _) | (with_reducible refine Kd.C_drew ?_))); (case side2 => exact (Kd.R_reads' HO_12.out).2.1); rintro e w' ⟨rfl, ⟨nd, rfl⟩⟩; (try first | exact ⟨rfl, _, World.drewN_drewN _ _ _⟩ | exact ⟨rfl, _, Eq.trans (World.drewN_drewN _ _ _) (congrArg (World.drewN _) (Nat.add_assoc _ _ _))⟩)) | (go_at_call 30; (with_reducible refine (r08_Has.calls k3 _ _ l1 x14_3 t276 _ ?side1 ?side2 A55.out).mono ?_); (case side1 => repeat (first | exact (Kd.C_below HR1.out (by repeat (first | (with_reducible first | exact HB.out | apply below_alloc | apply pw_below_drewN | apply below_drew1) | exact HB.out))) | (with_reducible refine Kd.C_alloc ?_ _) | (with_reducible refine Kd.C_drewN ?_ _) | (with_reducible refine Kd.C_drew ?_))); (case side2 => exact HC1.out); rintro e w' ⟨rfl, ⟨nd, rfl⟩⟩; (try first | exact ⟨rfl, _, World.drewN_drewN _ _ _⟩ | exact ⟨rfl, _, Eq.trans (World.drewN_drewN _ _ _) (congrArg (World.drewN _) (Nat.add_assoc _ _ _))⟩))); try go_wp2_with (first | (go_at_call 30; (with_reducible refine (r08_Has.calls k3 _ _ t271 x14_3 t274 _ ?side1 ?side2 A52.out).mono ?_); (case side1 => repeat (first | exact (Kd.R_reads' HO_13.out).2.2 | (with_reducible refine Kd.C_alloc ?_ _) | (with_reducible refine Kd.C_drewN ?_ _) | (with_reducible refine Kd.C_drew ?_))); (case side2 => exact (Kd.R_reads' HO_13.out).2.1); rintro e w' ⟨rfl, ⟨nd, rfl⟩⟩; (try first | exact ⟨rfl, _, World.drewN_drewN _ _ _⟩ | exact ⟨rfl, _, Eq.trans (World.drewN_drewN _ _ _) (congrArg (World.drewN _) (Nat.add_assoc _ _ _))⟩); obtain ⟨Ao58, co58, eo58⟩ := Kd.R_slice HO_12.out; subst eo58) | (go_at_call 30; (with_reducible refine (r08_Has.calls k3 _ _ t268 x14_3 true _ ?side1 ?side2 A53.out).mono ?_); (case side1 => repeat (first | exact (Kd.R_reads' HO_12.out).2.2 | (with_reducible refine Kd.C_alloc ?_ _) | (with_reducible refine Kd.C_drewN ?_ _) | (with_reducible refine Kd.C_drew ?_))); (case side2 => exact (Kd.R_reads' HO_12.out).2.1); rintro e w' ⟨rfl, ⟨nd, rfl⟩⟩; (try first | exact ⟨rfl, _, World.drewN_drewN _ _ _⟩ | exact ⟨rfl, _, Eq.trans (World.drewN_drewN _ _ _) (congrArg (World.drewN _) (Nat.add_assoc _ _ _))⟩)) | (go_at_call 30; (with_reducible refine (r08_Has.calls k3 _ _ l1 x14_3 t276 _ ?side1 ?side2 A55.out).mono ?_); (case side1 => repeat (first | exact (Kd.C_below HR1.out (by repeat (first | (with_reducible first | exact HB.out | apply below_alloc | apply pw_below_drewN | apply below_drew1) | exact HB.out))) | (with_reducible refine Kd.C_alloc ?_ _) | (with_reducible refine Kd.C_drewN ?_ _) | (with_reducible refine Kd.C_drew ?_))); (case side2 => exact HC1.out); rintro e w' ⟨rfl, ⟨nd, rfl⟩⟩; (try first | exact ⟨rfl, _, World.drewN_drewN _ _ _⟩ | exact ⟨rfl, _, Eq.trans (World.drewN_drewN _ _ _) (congrArg (World.drewN _) (Nat.add_assoc _ _ _))⟩))))
                            go_roundg k3
                            case measure => have := HJ7.out; have := HK2.out; have := HK3.out; omega
                            case rel => exact ⟨(wrap64 (x14_3 + 1)), (by first | rfl | (simp; done) | (simp [*]; done)), H', ⟨by have := HJ7.out; have := HK2.out; have := HK3.out; omega⟩, ⟨by (with_reducible repeat (first | apply Kd.R_alloc | apply Kd.R_drewN | apply Kd.R_drew)); exact HO_7.out⟩, ⟨by (with_reducible repeat (first | apply Kd.R_alloc | apply Kd.R_drewN | apply Kd.R_drew)); exact HO_12.out⟩, ⟨by (with_reducible repeat (first | apply Kd.R_alloc | apply Kd.R_drewN | apply Kd.R_drew)); exact HO_13.out⟩, ⟨by repeat (first | (with_reducible first | exact HB.out | apply below_alloc | apply pw_below_drewN | apply below_drew1) | exact HB.out)⟩⟩
                        · replace c54 := Bool.eq_false_iff.mpr c54
                          subst c54
                          have H1 : (if (t274 != false) = true then (some false) else (l08_ExtentErases.l1 k3 l1 t248 t252 t268 t271 (wrap64 (x14_3 + 1)))) = some r := by rw [if_neg (show ¬ (false = true) by decide)] at H; exact H
                          clear H
                          have H := H1
                          clear H1
                          by_cases c59 : (t274 != false) = true
                          · rw [if_pos c59] at H
                            have c59b0 : (t274 != false) = true := c59
                            (try (have c59b1 : decide (t274 = false) = false := by simpa using c59))
                            (try (have c59b2 : (t274 == false) = false := by simpa using c59))
                            (try (have c59b3 : ¬ (t274 = false) := by simpa using c59))
                            clear c59
                            exact absurd ((Option.some.inj H).trans HLAW.out) (by decide)
                          · rw [if_neg c59] at H
                            have c59b0 : (t274 != false) = false := by simpa using c59
                            (try (have c59b1 : decide (t274 = false) = true := by simpa using c59))
                            (try (have c59b2 : (t274 == false) = true := by simpa using c59))
                            clear c59
                            have H' := Aside0.mk H
                            clear H
                            obtain ⟨Ao60, co60, eo60⟩ := Kd.R_slice HO_13.out
                            subst eo60
                            go_wp2_with (first | (go_at_call 30; (with_reducible refine (r08_Has.calls k3 _ _ t271 x14_3 t274 _ ?side1 ?side2 A52.out).mono ?_); (case side1 => repeat (first | exact (Kd.R_reads' HO_13.out).2.2 | (with_reducible refine Kd.C_alloc ?_ _) | (with_reducible refine Kd.C_drewN ?_ _) | (with_reducible refine Kd.C_drew ?_))); (case side2 => exact (Kd.R_reads' HO_13.out).2.1); rintro e w' ⟨rfl, ⟨nd, rfl⟩⟩; (try first | exact ⟨rfl, _, World.drewN_drewN _ _ _⟩ | exact ⟨rfl, _, Eq.trans (World.drewN_drewN _ _ _) (congrArg (World.drewN _) (Nat.add_assoc _ _ _))⟩); obtain ⟨Ao61, co61, eo61⟩ := Kd.R_slice HO_12.out; subst eo61) | (go_at_call 30; (with_reducible refine (r08_Has.calls k3 _ _ t268 x14_3 false _ ?side1 ?side2 A53.out).mono ?_); (case side1 => repeat (first | exact (Kd.R_reads' HO_12.out).2.2 | (with_reducible refine Kd.C_alloc ?_ _) | (with_reducible refine Kd.C_drewN ?_ _) | (with_reducible refine Kd.C_drew ?_))); (case side2 => exact (Kd.R_reads' HO_12.out).2.1); rintro e w' ⟨rfl, ⟨nd, rfl⟩⟩; (try first | exact ⟨rfl, _, World.drewN_drewN _ _ _⟩ | exact ⟨rfl, _, Eq.trans (World.drewN_drewN _ _ _) (congrArg (World.drewN _) (Nat.add_assoc _ _ _))⟩)))
                            repeat (go_quiet (first | (go_at_call 30; (with_reducible refine (r08_Has.calls k3 _ _ t271 x14_3 t274 _ ?side1 ?side2 A52.out).mono ?_); (case side1 => repeat (first | exact (Kd.R_reads' HO_13.out).2.2 | (with_reducible refine Kd.C_alloc ?_ _) | (with_reducible refine Kd.C_drewN ?_ _) | (with_reducible refine Kd.C_drew ?_))); (case side2 => exact (Kd.R_reads' HO_13.out).2.1); rintro e w' ⟨rfl, ⟨nd, rfl⟩⟩; (try first | exact ⟨rfl, _, World.drewN_drewN _ _ _⟩ | exact ⟨rfl, _, Eq.trans (World.drewN_drewN _ _ _) (congrArg (World.drewN _) (Nat.add_assoc _ _ _))⟩); obtain ⟨Ao61, co61, eo61⟩ := Kd.R_slice HO_12.out; subst eo61) | (go_at_call 30; (with_reducible refine (r08_Has.calls k3 _ _ t268 x14_3 false _ ?side1 ?side2 A53.out).mono ?_); (case side1 => repeat (first | exact (Kd.R_reads' HO_12.out).2.2 | (with_reducible refine Kd.C_alloc ?_ _) | (with_reducible refine Kd.C_drewN ?_ _) | (with_reducible refine Kd.C_drew ?_))); (case side2 => exact (Kd.R_reads' HO_12.out).2.1); rintro e w' ⟨rfl, ⟨nd, rfl⟩⟩; (try first | exact ⟨rfl, _, World.drewN_drewN _ _ _⟩ | exact ⟨rfl, _, Eq.trans (World.drewN_drewN _ _ _) (congrArg (World.drewN _) (Nat.add_assoc _ _ _))⟩))); try go_wp2_with (first | (go_at_call 30; (with_reducible refine (r08_Has.calls k3 _ _ t271 x14_3 t274 _ ?side1 ?side2 A52.out).mono ?_); (case side1 => repeat (first | exact (Kd.R_reads' HO_13.out).2.2 | (with_reducible refine Kd.C_alloc ?_ _) | (with_reducible refine Kd.C_drewN ?_ _) | (with_reducible refine Kd.C_drew ?_))); (case side2 => exact (Kd.R_reads' HO_13.out).2.1); rintro e w' ⟨rfl, ⟨nd, rfl⟩⟩; (try first | exact ⟨rfl, _, World.drewN_drewN _ _ _⟩ | exact ⟨rfl, _, Eq.trans (World.drewN_drewN _ _ _) (congrArg (World.drewN _) (Nat.add_assoc _ _ _))⟩); obtain ⟨Ao61, co61, eo61⟩ := Kd.R_slice HO_12.out; subst eo61) | (go_at_call 30; (with_reducible refine (r08_Has.calls k3 _ _ t268 x14_3 false _ ?side1 ?side2 A53.out).mono ?_); (case side1 => repeat (first | exact (Kd.R_reads' HO_12.out).2.2 | (with_reducible refine Kd.C_alloc ?_ _) | (with_reducible refine Kd.C_drewN ?_ _) | (with_reducible refine Kd.C_drew ?_))); (case side2 => exact (Kd.R_reads' HO_12.out).2.1); rintro e w' ⟨rfl, ⟨nd, rfl⟩⟩; (try first | exact ⟨rfl, _, World.drewN_drewN _ _ _⟩ | exact ⟨rfl, _, Eq.trans (World.drewN_drewN _ _ _) (congrArg (World.drewN _) (Nat.add_assoc _ _ _))⟩))))
                            go_roundg k3
                            case measure => have := HJ7.out; have := HK2.out; have := HK3.out; omega
                            case rel => exact ⟨(wrap64 (x14_3 + 1)), (by first | rfl | (simp; done) | (simp [*]; done)), H', ⟨by have := HJ7.out; have := HK2.out; have := HK3.out; omega⟩, ⟨by (with_reducible repeat (first | apply Kd.R_alloc | apply Kd.R_drewN | apply Kd.R_drew)); exact HO_7.out⟩, ⟨by (with_reducible repeat (first | apply Kd.R_alloc | apply Kd.R_drewN | apply Kd.R_drew)); exact HO_12.out⟩, ⟨by (with_reducible repeat (first | apply Kd.R_alloc | apply Kd.R_drewN | apply Kd.R_drew)); exact HO_13.out⟩, ⟨by repeat (first | (with_reducible first | exact HB.out | apply below_alloc | apply pw_below_drewN | apply below_drew1) | exact HB.out)⟩⟩
                      · rw [if_neg c51] at H
                        have c51b0 : decide (x14_3 < 6) = false := decide_eq_false c51
                        clear c51
                        have H' := Aside0.mk H
                        clear H
                        go_wp2
                        repeat (go_quiet (fail); try go_wp2)
                        go_loopg [15] k3 (fun kq v15 w' => ∃ (x15_4 : Int), v15 = .int .i64 x15_4 ∧ Aside0 (l08_ExtentErases.l2 kq l1 t248 t252 t271 x15_4 = some r) ∧ Aside0 (kq ≤ k3) ∧ Aside0 (Kd.R k58 58 w' w.heap.size (fun _ => True) (.slice Ao25 t252.length co25) t252) ∧ Aside0 (Kd.R (Kd.int .i64) 3 w' w.heap.size (fun _ => True) v272 t271) ∧ Aside0 (Below w.heap.size w w'))
                        case atStart => exact ⟨(0), (by first | rfl | (simp; done) | (simp [*]; done)), H', ⟨Nat.le_refl _⟩, ⟨by (with_reducible repeat (first | apply Kd.R_alloc | apply Kd.R_drewN | apply Kd.R_drew)); exact HO_7.out⟩, ⟨by (with_reducible repeat (first | apply Kd.R_alloc | apply Kd.R_drewN | apply Kd.R_drew)); exact Kd.R_mono HO_13.out (fun _ hk => trivial)⟩, ⟨by repeat (first | (with_reducible first | exact HB.out | apply below_alloc | apply pw_below_drewN | apply below_drew1) | exact HB.out)⟩⟩
                        case round =>
                          clear H'
                          try clear c1
                          try clear c2
                          try clear p2
                          try clear q2
                          try clear hx2
                          try clear c3
                          try clear c4
                          try clear c4b0
                          try clear c4b1
                          try clear c5
                          try clear p6
                          try clear c9
                          try clear c14
                          try clear c20
                          try clear c23
                          try clear c23b0
                          try clear c23b1
                          try clear c23b2
                          try clear p26
                          try clear q26
                          try clear hx26
                          try clear c29
                          try clear c29b0
                          try clear c30
                          try clear c30b0
                          try clear c34
                          try clear c34b0
                          try clear c38
                          try clear c39
                          try clear c39b0
                          try clear c40
                          try clear c40b0
                          try clear c41
                          try clear c41b0
                          try clear c43
                          try clear c43b0
                          try clear c44
                          try clear c44b0
                          try clear c45
                          try clear c45b0
                          try clear c51
                          try clear c51b0
                          try clear c54
                          try clear c56
                          try clear c56b0
                          try clear c56b1
                          try clear c56b2
                          try clear c59
                          try clear c59b0
                          try clear c59b1
                          try clear c59b2
                          try clear hcz33_0
                          try clear hcz33_1
                          try clear hcz36_0
                          try clear hcz36_1
                          try clear hcz37_0
                          try clear hcz37_1
                          try clear hcz42_0
                          try clear hcz42_1
                          try clear hcz46_0
                          try clear hcz46_1
                          try clear hfz33_0
                          try clear hfz33_1
                          try clear hfz36_0
                          try clear hfz36_1
                          try clear hfz37_0
                          try clear hfz37_1
                          try clear hfz42_0
                          try clear hfz42_1
                          try clear hfz46_0
                          try clear hfz46_1
                          try clear hx263_0
                          try clear hx263_1
                          try clear hx266_0
                          try clear hx266_1
                          try clear hx267_0
                          try clear hx267_1
                          try clear p2
                          try clear p26
                          try clear p263
                          try clear p266
                          try clear p267
                          try clear p6
                          try clear q2
                          try clear q26
                          try clear q263
                          try clear q266
                          try clear q267
                          obtain ⟨x15_4, rfl, HA, HK4, HO_7, HO_13, HB⟩ := hrel
                          cases gk with
                          | zero => exact absurd HA.out (by simp [l08_ExtentErases.l2])
                          | succ k4 =>
                            have H := HA.out
                            clear HA
                            simp only [l08_ExtentErases.l2] at H
                            by_cases c62 : x15_4 < (t271.length : Int)
                            · rw [if_pos c62] at H
                              have c62b0 : decide (x15_4 < (t271.length : Int)) = true := decide_eq_true c62
                              clear c62
                              by_cases c63 : 0 ≤ x15_4
                              · rw [if_pos c63] at H
                                have c63b0 : decide (0 ≤ x15_4) = true := decide_eq_true c63
                                clear c63
                                by_cases c64 : (rd t271 x15_4) < 1
                                · rw [if_pos c64] at H
                                  have c64b0 : decide ((rd t271 x15_4) < 1) = true := decide_eq_true c64
                                  clear c64
                                  exact absurd ((Option.some.inj H).trans HLAW.out) (by decide)
                                · rw [if_neg c64] at H
                                  have c64b0 : decide ((rd t271 x15_4) < 1) = false := decide_eq_false c64
                                  clear c64
                                  by_cases c65 : (rd t271 x15_4) > 4
                                  · rw [if_pos c65] at H
                                    have c65b0 : decide (4 < (rd t271 x15_4)) = true := decide_eq_true c65
                                    clear c65
                                    exact absurd ((Option.some.inj H).trans HLAW.out) (by decide)
                                  · rw [if_neg c65] at H
                                    have c65b0 : decide (4 < (rd t271 x15_4)) = false := decide_eq_false c65
                                    clear c65
                                    by_cases c66 : x15_4 > 0
                                    · rw [if_pos c66] at H
                                      have c66b0 : decide (0 < x15_4) = true := decide_eq_true c66
                                      clear c66
                                      obtain ⟨ji67, hji67⟩ : ∃ j_ : Int, (wrap64 (x15_4 - 1)) = j_ := ⟨_, rfl⟩
                                      replace H : (if 0 ≤ (ji67) then (if (ji67) < (t271.length : Int) then (if (rd t271 (ji67)) ≥ (rd t271 x15_4) then (some false) else (l08_ExtentErases.l2 k4 l1 t248 t252 t271 (wrap64 (x15_4 + 1)))) else (none)) else (none)) = some r := by first | (rw [hji67] at H; exact H) | (simp only [hji67] at H ⊢; exact H)
                                      have hji67w : (IntKind.i64.wrap (x15_4 - 1)) = ji67 := (i64_w _).trans hji67
                                      by_cases c68 : 0 ≤ (ji67)
                                      · rw [if_pos c68] at H
                                        have c68b0 : decide (0 ≤ (ji67)) = true := decide_eq_true c68
                                        clear c68
                                        by_cases c69 : (ji67) < (t271.length : Int)
                                        · rw [if_pos c69] at H
                                          have c69b0 : decide ((ji67) < (t271.length : Int)) = true := decide_eq_true c69
                                          clear c69
                                          by_cases c70 : (rd t271 (ji67)) ≥ (rd t271 x15_4)
                                          · rw [if_pos c70] at H
                                            have c70b0 : decide ((rd t271 x15_4) ≤ (rd t271 (ji67))) = true := decide_eq_true c70
                                            clear c70
                                            exact absurd ((Option.some.inj H).trans HLAW.out) (by decide)
                                          · rw [if_neg c70] at H
                                            have c70b0 : decide ((rd t271 x15_4) ≤ (rd t271 (ji67))) = false := decide_eq_false c70
                                            clear c70
                                            have H' := Aside0.mk H
                                            clear H
                                            obtain ⟨Ao71, co71, eo71⟩ := Kd.R_slice HO_13.out
                                            subst eo71
                                            have p277 : 0 ≤ (x15_4 : Int) := of_decide_eq_true (by first | (with_reducible assumption) | assumption)
                                            have q277 : x15_4 < (t271.length : Int) := of_decide_eq_true (by first | (with_reducible assumption) | assumption)
                                            obtain ⟨ad277, e277, hx277_0⟩ := Kd.at_int (Kd.R_reads' HO_13.out).2.2 x15_4 p277 q277
                                            cases e277
                                            replace p277 := eq_true p277
                                            replace q277 := eq_true q277
                                            have p278 : 0 ≤ (x15_4 : Int) := of_decide_eq_true (by first | (with_reducible assumption) | assumption)
                                            have q278 : x15_4 < (t271.length : Int) := of_decide_eq_true (by first | (with_reducible assumption) | assumption)
                                            obtain ⟨ad278, e278, hx278_0⟩ := Kd.at_int (Kd.R_reads' HO_13.out).2.2 x15_4 p278 q278
                                            obtain rfl : ad277 = ad278 := (by injection e278)
                                            replace p278 := eq_true p278
                                            replace q278 := eq_true q278
                                            have p279 : 0 ≤ ((ji67) : Int) := of_decide_eq_true (by first | (with_reducible assumption) | assumption)
                                            have q279 : (ji67) < (t271.length : Int) := of_decide_eq_true (by first | (with_reducible assumption) | assumption)
                                            obtain ⟨ad279, e279, hx279_0⟩ := Kd.at_int (Kd.R_reads' HO_13.out).2.2 (ji67) p279 q279
                                            obtain rfl : ad277 = ad279 := (by injection e279)
                                            replace p279 := eq_true p279
                                            replace q279 := eq_true q279
                                            have p280 : 0 ≤ (x15_4 : Int) := of_decide_eq_true (by first | (with_reducible assumption) | assumption)
                                            have q280 : x15_4 < (t271.length : Int) := of_decide_eq_true (by first | (with_reducible assumption) | assumption)
                                            obtain ⟨ad280, e280, hx280_0⟩ := Kd.at_int (Kd.R_reads' HO_13.out).2.2 x15_4 p280 q280
                                            obtain rfl : ad277 = ad280 := (by injection e280)
                                            replace p280 := eq_true p280
                                            replace q280 := eq_true q280
                                            go_wp2
                                            repeat (go_quiet (fail); try go_wp2)
                                            go_roundg k4
                                            case measure => have := HJ7.out; have := HK2.out; have := HK3.out; have := HK4.out; omega
                                            case rel => exact ⟨(wrap64 (x15_4 + 1)), (by first | rfl | (simp; done) | (simp [*]; done)), H', ⟨by have := HJ7.out; have := HK2.out; have := HK3.out; have := HK4.out; omega⟩, ⟨by (with_reducible repeat (first | apply Kd.R_alloc | apply Kd.R_drewN | apply Kd.R_drew)); exact HO_7.out⟩, ⟨by (with_reducible repeat (first | apply Kd.R_alloc | apply Kd.R_drewN | apply Kd.R_drew)); exact HO_13.out⟩, ⟨by repeat (first | (with_reducible first | exact HB.out | apply below_alloc | apply pw_below_drewN | apply below_drew1) | exact HB.out)⟩⟩
                                        · rw [if_neg c69] at H
                                          exact absurd H (by simp)
                                      · rw [if_neg c68] at H
                                        exact absurd H (by simp)
                                    · rw [if_neg c66] at H
                                      have c66b0 : decide (0 < x15_4) = false := decide_eq_false c66
                                      clear c66
                                      have H' := Aside0.mk H
                                      clear H
                                      obtain ⟨Ao72, co72, eo72⟩ := Kd.R_slice HO_13.out
                                      subst eo72
                                      have p277 : 0 ≤ (x15_4 : Int) := of_decide_eq_true (by first | (with_reducible assumption) | assumption)
                                      have q277 : x15_4 < (t271.length : Int) := of_decide_eq_true (by first | (with_reducible assumption) | assumption)
                                      obtain ⟨ad277, e277, hx277_0⟩ := Kd.at_int (Kd.R_reads' HO_13.out).2.2 x15_4 p277 q277
                                      cases e277
                                      replace p277 := eq_true p277
                                      replace q277 := eq_true q277
                                      have p278 : 0 ≤ (x15_4 : Int) := of_decide_eq_true (by first | (with_reducible assumption) | assumption)
                                      have q278 : x15_4 < (t271.length : Int) := of_decide_eq_true (by first | (with_reducible assumption) | assumption)
                                      obtain ⟨ad278, e278, hx278_0⟩ := Kd.at_int (Kd.R_reads' HO_13.out).2.2 x15_4 p278 q278
                                      obtain rfl : ad277 = ad278 := (by injection e278)
                                      replace p278 := eq_true p278
                                      replace q278 := eq_true q278
                                      go_wp2
                                      repeat (go_quiet (fail); try go_wp2)
                                      go_roundg k4
                                      case measure => have := HJ7.out; have := HK2.out; have := HK3.out; have := HK4.out; omega
                                      case rel => exact ⟨(wrap64 (x15_4 + 1)), (by first | rfl | (simp; done) | (simp [*]; done)), H', ⟨by have := HJ7.out; have := HK2.out; have := HK3.out; have := HK4.out; omega⟩, ⟨by (with_reducible repeat (first | apply Kd.R_alloc | apply Kd.R_drewN | apply Kd.R_drew)); exact HO_7.out⟩, ⟨by (with_reducible repeat (first | apply Kd.R_alloc | apply Kd.R_drewN | apply Kd.R_drew)); exact HO_13.out⟩, ⟨by repeat (first | (with_reducible first | exact HB.out | apply below_alloc | apply pw_below_drewN | apply below_drew1) | exact HB.out)⟩⟩
                              · rw [if_neg c63] at H
                                exact absurd H (by simp)
                            · rw [if_neg c62] at H
                              have c62b0 : decide (x15_4 < (t271.length : Int)) = false := decide_eq_false c62
                              clear c62
                              replace H := Option.bind_eq_some_iff.mp H
                              obtain ⟨t281, A730, H⟩ := H
                              replace H : ((r08_Same.f k4 t281 t252).bind fun t284 => (if t284 = true then (some t248) else (some false))) = some r := H
                              have A73 := Aside0.mk A730
                              clear A730
                              replace H := Option.bind_eq_some_iff.mp H
                              obtain ⟨t284, A740, H⟩ := H
                              replace H : (if t284 = true then (some t248) else (some false)) = some r := H
                              have A74 := Aside0.mk A740
                              clear A740
                              by_cases c75 : t284 = true
                              · subst c75
                                have H1 : (some t248) = some r := by rw [if_pos rfl] at H; exact H
                                clear H
                                have H := H1
                                clear H1
                                clear HLAW
                                obtain rfl := Option.some.inj H
                                obtain ⟨Ao76, co76, eo76⟩ := Kd.R_slice HO_13.out
                                subst eo76
                                go_wp2_with (first | (go_at_call 29; (with_reducible refine (extent_Erase.calls _ _ t252 _ _ l1 t281 _ ?side1 ?side2 ?side3 ?side4 A73.out).mono ?_); (case side1 => repeat (first | exact (Kd.R_reads' HO_7.out).2.2 | (with_reducible refine Kd.C_alloc ?_ _) | (with_reducible refine Kd.C_drewN ?_ _) | (with_reducible refine Kd.C_drew ?_))); (case side2 => exact (Kd.R_reads' HO_7.out).2.1); (case side3 => repeat (first | exact (Kd.C_below HR1.out HB.out) | (with_reducible refine Kd.C_alloc ?_ _) | (with_reducible refine Kd.C_drewN ?_ _) | (with_reducible refine Kd.C_drew ?_))); (case side4 => exact HC1.out); rintro e w77 ⟨v282, rfl, ho0, hb⟩; have n0_ := Aside0.mk (Kd.R_elder' (by (with_reducible repeat (first | apply Kd.R_alloc | apply Kd.R_drewN | apply Kd.R_drew)); exact HO_7.out) (Kd.R_base ho0) hb); have n1_ := Aside0.mk (Kd.R_below (by (with_reducible repeat (first | apply Kd.R_alloc | apply Kd.R_drewN | apply Kd.R_drew)); exact HO_13.out) hb); have n2_ := Aside0.mk (Kd.R_lower (Kd.R_new' ho0 (Kd.R_lt (by (with_reducible repeat (first | apply Kd.R_alloc | apply Kd.R_drewN | apply Kd.R_drew)); exact HO_7.out))) (below_size (by repeat (first | (with_reducible first | exact HB.out | apply below_alloc | apply pw_below_drewN | apply below_drew1) | exact HB.out)))); have n3_ := Aside0.mk (below_step (by repeat (first | (with_reducible first | exact HB.out | apply below_alloc | apply pw_below_drewN | apply below_drew1) | exact HB.out)) hb); clear HO_7; clear HO_13; clear HB; have HO_7 := n0_; have HO_13 := n1_; have HO283 := n2_; have HB := n3_; clear n0_ n1_ n2_ n3_; (try clear hb); (try clear hb2); (try clear hk); (try clear hi); (try clear ho0); obtain ⟨Ao78, co78, eo78⟩ := Kd.R_slice HO283.out; subst eo78) | (go_at_call 17; (with_reducible refine (r08_Same.calls k4 _ _ t281 _ _ t252 true _ ?side1 ?side2 ?side3 ?side4 A74.out).mono ?_); (case side1 => repeat (first | exact (Kd.R_reads' HO283.out).2.2 | (with_reducible refine Kd.C_alloc ?_ _) | (with_reducible refine Kd.C_drewN ?_ _) | (with_reducible refine Kd.C_drew ?_))); (case side2 => exact (Kd.R_reads' HO283.out).2.1); (case side3 => repeat (first | exact (Kd.R_reads' HO_7.out).2.2 | (with_reducible refine Kd.C_alloc ?_ _) | (with_reducible refine Kd.C_drewN ?_ _) | (with_reducible refine Kd.C_drew ?_))); (case side4 => exact (Kd.R_reads' HO_7.out).2.1); rintro e w' ⟨rfl, ⟨nd, rfl⟩⟩; (try first | exact ⟨rfl, _, World.drewN_drewN _ _ _⟩ | exact ⟨rfl, _, Eq.trans (World.drewN_drewN _ _ _) (congrArg (World.drewN _) (Nat.add_assoc _ _ _))⟩)))
                                repeat (go_quiet (first | (go_at_call 29; (with_reducible refine (extent_Erase.calls _ _ t252 _ _ l1 t281 _ ?side1 ?side2 ?side3 ?side4 A73.out).mono ?_); (case side1 => repeat (first | exact (Kd.R_reads' HO_7.out).2.2 | (with_reducible refine Kd.C_alloc ?_ _) | (with_reducible refine Kd.C_drewN ?_ _) | (with_reducible refine Kd.C_drew ?_))); (case side2 => exact (Kd.R_reads' HO_7.out).2.1); (case side3 => repeat (first | exact (Kd.C_below HR1.out HB.out) | (with_reducible refine Kd.C_alloc ?_ _) | (with_reducible refine Kd.C_drewN ?_ _) | (with_reducible refine Kd.C_drew ?_))); (case side4 => exact HC1.out); rintro e w77 ⟨v282, rfl, ho0, hb⟩; have n0_ := Aside0.mk (Kd.R_elder' (by (with_reducible repeat (first | apply Kd.R_alloc | apply Kd.R_drewN | apply Kd.R_drew)); exact HO_7.out) (Kd.R_base ho0) hb); have n1_ := Aside0.mk (Kd.R_below (by (with_reducible repeat (first | apply Kd.R_alloc | apply Kd.R_drewN | apply Kd.R_drew)); exact HO_13.out) hb); have n2_ := Aside0.mk (Kd.R_lower (Kd.R_new' ho0 (Kd.R_lt (by (with_reducible repeat (first | apply Kd.R_alloc | apply Kd.R_drewN | apply Kd.R_drew)); exact HO_7.out))) (below_size (by repeat (first | (with_reducible first | exact HB.out | apply below_alloc | apply pw_below_drewN | apply below_drew1) | exact HB.out)))); have n3_ := Aside0.mk (below_step (by repeat (first | (with_reducible first | exact HB.out | apply below_alloc | apply pw_below_drewN | apply below_drew1) | exact HB.out)) hb); clear HO_7; clear HO_13; clear HB; have HO_7 := n0_; have HO_13 := n1_; have HO283 := n2_; have HB := n3_; clear n0_ n1_ n2_ n3_; (try clear hb); (try clear hb2); (try clear hk); (try clear hi); (try clear ho0); obtain ⟨Ao78, co78, eo78⟩ := Kd.R_slice HO283.out; subst eo78) | (go_at_call 17; (with_reducible refine (r08_Same.calls k4 _ _ t281 _ _ t252 true _ ?side1 ?side2 ?side3 ?side4 A74.out).mono ?_); (case side1 => repeat (first | exact (Kd.R_reads' HO283.out).2.2 | (with_reducible refine Kd.C_alloc ?_ _) | (with_reducible refine Kd.C_drewN ?_ _) | (with_reducible refine Kd.C_drew ?_))); (case side2 => exact (Kd.R_reads' HO283.out).2.1); (case side3 => repeat (first | exact (Kd.R_reads' HO_7.out).2.2 | (with_reducible refine Kd.C_alloc ?_ _) | (with_reducible refine Kd.C_drewN ?_ _) | (with_reducible refine Kd.C_drew ?_))); (case side4 => exact (Kd.R_reads' HO_7.out).2.1); rintro e w' ⟨rfl, ⟨nd, rfl⟩⟩; (try first | exact ⟨rfl, _, World.drewN_drewN _ _ _⟩ | exact ⟨rfl, _, Eq.trans (World.drewN_drewN _ _ _) (congrArg (World.drewN _) (Nat.add_assoc _ _ _))⟩))); try go_wp2_with (first | (go_at_call 29; (with_reducible refine (extent_Erase.calls _ _ t252 _ _ l1 t281 _ ?side1 ?side2 ?side3 ?side4 A73.out).mono ?_); (case side1 => repeat (first | exact (Kd.R_reads' HO_7.out).2.2 | (with_reducible refine Kd.C_alloc ?_ _) | (with_reducible refine Kd.C_drewN ?_ _) | (with_reducible refine Kd.C_drew ?_))); (case side2 => exact (Kd.R_reads' HO_7.out).2.1); (case side3 => repeat (first | exact (Kd.C_below HR1.out HB.out) | (with_reducible refine Kd.C_alloc ?_ _) | (with_reducible refine Kd.C_drewN ?_ _) | (with_reducible refine Kd.C_drew ?_))); (case side4 => exact HC1.out); rintro e w77 ⟨v282, rfl, ho0, hb⟩; have n0_ := Aside0.mk (Kd.R_elder' (by (with_reducible repeat (first | apply Kd.R_alloc | apply Kd.R_drewN | apply Kd.R_drew)); exact HO_7.out) (Kd.R_base ho0) hb); have n1_ := Aside0.mk (Kd.R_below (by (with_reducible repeat (first | apply Kd.R_alloc | apply Kd.R_drewN | apply Kd.R_drew)); exact HO_13.out) hb); have n2_ := Aside0.mk (Kd.R_lower (Kd.R_new' ho0 (Kd.R_lt (by (with_reducible repeat (first | apply Kd.R_alloc | apply Kd.R_drewN | apply Kd.R_drew)); exact HO_7.out))) (below_size (by repeat (first | (with_reducible first | exact HB.out | apply below_alloc | apply pw_below_drewN | apply below_drew1) | exact HB.out)))); have n3_ := Aside0.mk (below_step (by repeat (first | (with_reducible first | exact HB.out | apply below_alloc | apply pw_below_drewN | apply below_drew1) | exact HB.out)) hb); clear HO_7; clear HO_13; clear HB; have HO_7 := n0_; have HO_13 := n1_; have HO283 := n2_; have HB := n3_; clear n0_ n1_ n2_ n3_; (try clear hb); (try clear hb2); (try clear hk); (try clear hi); (try clear ho0); obtain ⟨Ao78, co78, eo78⟩ := Kd.R_slice HO283.out; subst eo78) | (go_at_call 17; (with_reducible refine (r08_Same.calls k4 _ _ t281 _ _ t252 true _ ?side1 ?side2 ?side3 ?side4 A74.out).mono ?_); (case side1 => repeat (first | exact (Kd.R_reads' HO283.out).2.2 | (with_reducible refine Kd.C_alloc ?_ _) | (with_reducible refine Kd.C_drewN ?_ _) | (with_reducible refine Kd.C_drew ?_))); (case side2 => exact (Kd.R_reads' HO283.out).2.1); (case side3 => repeat (first | exact (Kd.R_reads' HO_7.out).2.2 | (with_reducible refine Kd.C_alloc ?_ _) | (with_reducible refine Kd.C_drewN ?_ _) | (with_reducible refine Kd.C_drew ?_))); (case side4 => exact (Kd.R_reads' HO_7.out).2.1); rintro e w' ⟨rfl, ⟨nd, rfl⟩⟩; (try first | exact ⟨rfl, _, World.drewN_drewN _ _ _⟩ | exact ⟨rfl, _, Eq.trans (World.drewN_drewN _ _ _) (congrArg (World.drewN _) (Nat.add_assoc _ _ _))⟩))))
                                go_ret
                                exact ⟨by first | rfl | (simp [errW_none, errW_some] <;> rfl) | (simp [*, errW_none, errW_some] <;> rfl) | (exfalso; simp_all only [aside0_iff, Option.some.injEq, reduceCtorEq]), by repeat (first | (with_reducible first | exact HB.out | apply below_alloc | apply pw_below_drewN | apply below_drew1) | exact HB.out)⟩
                              · replace c75 := Bool.eq_false_iff.mpr c75
                                subst c75
                                have H1 : (some false) = some r := by rw [if_neg (show ¬ (false = true) by decide)] at H; exact H
                                clear H
                                have H := H1
                                clear H1
                                exact absurd ((Option.some.inj H).trans HLAW.out) (by decide)
          · rw [if_neg c23] at H
            have c23b0 : ((t260.length : Int) == (t257.length : Int)) = false := beq_eq_false_iff_ne.mpr c23
            have c23b1 : ((t260.length : Int) != (t257.length : Int)) = true := bne_iff_ne.mpr c23
            have c23b2 : (t260.length == t257.length) = false := by first | simpa using c23 | (simp at c23 ⊢; omega)
            exact absurd ((Option.some.inj H).trans HLAW.out) (by decide)

/-- THE ONE PURE STATEMENT of l08_ExtentErases: yours. -/
def l08_ExtentErases.Pure : Prop := ∀ (l0 : List (S37)) (l1 : List Int), (l0.length ≤ maxLen ∧ l0.length * 3 ≤ 140737488351232 ∧ ∀ x1_ ∈ l0, ((Lit.int .u8 x1_.f0).wf = true) ∧ (((Lit.int .u8 x1_.f1).wf = true) ∧ ((Lit.int .u8 x1_.f2).wf = true))) → (l1.length ≤ maxLen ∧ l1.length * 8 ≤ 140737488351232 ∧ ∀ x1_ ∈ l1, (Lit.int .i64 x1_).wf = true) → ∃ k, l08_ExtentErases.f k l0 l1 = some true


end Go.Proofs.Ytfhjbhbmbnnimaa.PE
