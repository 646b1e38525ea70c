/- Put together by this session's program out of: Sj Sk Wl Pa. -/
import Derived.Below
import Derived.ChangeOld
import Derived.LaidMore
import Derived.Laws.IdiomStrings
import Derived.OpenShut
import Derived.ProofKit
import Derived.SevenTiedAt
import Derived.ShutString
import Derived.SizedLaws
import Derived.WalkKit
import Derived.Test.YtanabbjakacgbaaGreatDoorM10
import Derived.Test.YtanabbjakacgbaaGreatDoorRows
import Derived.Test.YtanabbjakacgbaaGreatDoorTie
import Derived.Test.YtanabbjakacgbaaGreatDoorCards
import Derived.Test.YtanabbjakacgbaaGreatDoorM0
import Derived.Test.YtanabbjakacgbaaGreatDoorM6
namespace Go.Proofs.YtanabbjakacgbaaGreatDoor.Sp
open Go.RowKit Go.Proofs.YtanabbjakacgbaaGreatDoorW.PrintWords Go.Proofs.YtanabbjakacgbaaGreatDoorW.PrintLast Go.Proofs.YtanabbjakacgbaaGreatDoorW.PrintMore Go.Proofs.YtanabbjakacgbaaGreatDoor.PM
set_option linter.unusedVariables false
set_option linter.unusedSimpArgs false
set_option maxRecDepth 100000
def keyB (n : Int) : ByteArray := ⟨#[107, 101, 121, UInt8.ofNat (97 + n % 24).toNat]⟩
theorem key_app (b : UInt8) : (⟨#[107, 101, 121]⟩ : ByteArray) ++ ⟨#[b]⟩ = ⟨#[107, 101, 121, b]⟩ := by
 apply ByteArray.ext
 simp [ByteArray.data_append]
theorem Key_calls (n : Int) (hn : 0 ≤ n ∧ n < 256) (w : World) : Calls Tryz.prog 6 #[.int .u8 n] w fun e w' => e = .returned (.string (keyB n)) ∧ Below w.heap.size w w' := by
 have h1 : 0 ≤ n % 24 ∧ n % 24 < 24 := by omega
 obtain ⟨b, hb⟩ : ∃ b, UInt8.ofNat (97 + n % 24).toNat = b := ⟨_, rfl⟩
 have hbn : ((b.toNat : Nat) : Int) = 97 + n % 24 := by rw [← hb, UInt8.toNat_ofNat']; omega
 have hcell : (w.alloc (.cells #[.int .u8 (97 + n % 24)] 5)).cell? ⟨w.heap.size, 0, none⟩ = some (.int .u8 (97 + n % 24)) := (cell_of_row _ w.heap.size 0 _ 5 _ (h_new rfl)).trans rfl
 have hcv := run_convert_bytes_back (P := Tryz.prog) (w.alloc (.cells #[.int .u8 (97 + n % 24)] 5)) 53 9 5 ⟨w.heap.size, 0, none⟩ 1 [b] Tryz.underlying53 Tryz.underlying5 Tryz.underlying9 (fun j hj => by
  obtain rfl : j = 0 := by simpa using hj
  rw [show ((⟨w.heap.size, 0, none⟩ : Addr).add 0) = ⟨w.heap.size, 0, none⟩ from rfl, hcell]
  show _ = some (Value.int .u8 ((b.toNat : Nat) : Int))
  rw [hbn])
 have hk : keyB n = ⟨#[107, 101, 121, b]⟩ := by rw [keyB, hb]
 rw [hk]
 have HCV := Aside0.mk hcv
 clear hcv hcell hk hb hbn
 go_enter Tryz.func6, Tryz.ntmps6
 go_wp2_with (first
  | ((with_reducible refine gate_dst (N := 7) rfl ?_); (refine wpList_convert rfl 53 9 (.tmp 6) rfl _ _ rfl _ HCV.out ?_)))
 go_ret
 refine ⟨?_, below_alloc (Below.refl _ _) _⟩
 show Ending.returned (Value.string ((⟨#[107, 101, 121]⟩ : ByteArray) ++ ⟨#[b]⟩)) = _
 rw [key_app]
end Go.Proofs.YtanabbjakacgbaaGreatDoor.Sp
namespace Go.Proofs.YtanabbjakacgbaaGreatDoor.Sp
open Go.RowKit Go.Proofs.YtanabbjakacgbaaGreatDoorW.PrintWords Go.Proofs.YtanabbjakacgbaaGreatDoorW.PrintLast Go.Proofs.YtanabbjakacgbaaGreatDoorW.PrintMore Go.Proofs.YtanabbjakacgbaaGreatDoor.PM
set_option linter.unusedVariables false
set_option linter.unusedSimpArgs false
set_option maxRecDepth 100000
def cQ (p : Int × Int) : Array Value := #[.int .u8 p.1, .int .u8 p.2]
def kQ : Kd (Int × Int) := flat 2 cQ (fun _ => rfl) (by intro x u hu; simp [cQ] at hu; rcases hu with rfl | rfl <;> rfl)
def lfOf (p : Int × Int) : Lf := ⟨keyB p.1, sB p.2⟩
def madeOf (a : List (Int × Int)) : List Lf := a.foldl (fun l p => putOf l (lfOf p)) []
theorem madeOf_succ {a : List (Int × Int)} {n : Nat} (hn : n < a.length) : madeOf (a.take (n + 1)) = putOf (madeOf (a.take n)) (lfOf (a.getD n (0, 0))) := by
 rw [madeOf, take_succ' (0, 0) hn, List.foldl_append]; rfl
theorem putOf_len (l : List Lf) (x : Lf) : (putOf l x).length ≤ 2 * l.length + 1 := by
 have h := foldl_len x l ([], false)
 unfold putOf
 have h2 : (putGo l x).1.length ≤ 2 * l.length := by simpa [putGo] using h
 split
 ·omega
 ·rw [List.length_append, List.length_singleton]; omega
theorem built_L (p : ByteArray) (q : Sm) : Tryz.prog.built 32 [(0, .string p), (1, .agg (cS q))] = some (cL ⟨p, q⟩) :=
 fill_two 0 1 (.string p) (.agg (cS q)) (cL zL) (#[(0, 1), (1, 32)][·]?) rfl (by show some (1, 32) = some (1, (cS q).size); rw [cS_size]) (by show (cL zL).size = 1 + (cS q).size; rw [cS_size, cL_size])
theorem madeOf_len : ∀ (n : Nat) (a : List (Int × Int)), n ≤ a.length → (madeOf (a.take n)).length + 1 ≤ 2 ^ n
 | 0, a, _ => by simp [madeOf]
 | n + 1, a, h => by
  have ih := madeOf_len n a (by omega)
  have h2 := putOf_len (madeOf (a.take n)) (lfOf (a.getD n (0, 0)))
  rw [madeOf_succ (by omega), Nat.pow_succ]
  omega
theorem madeOf_small {n : Nat} {a : List (Int × Int)} (h : n ≤ a.length) (hn : n ≤ 12) : (madeOf (a.take n)).length ≤ 4096 := by
 have h1 := madeOf_len n a h
 have h2 : 2 ^ n ≤ 2 ^ 12 := Nat.pow_le_pow_right (by omega) hn
 omega
def Oct (a : List (Int × Int)) : Prop := ∀ p ∈ a, (0 ≤ p.1 ∧ p.1 < 256) ∧ 0 ≤ p.2 ∧ p.2 < 256
set_option maxHeartbeats 1000000 in
theorem Made_calls (a : List (Int × Int)) (ha : Oct a) (N : Nat) (hN : N ≤ 12) (A : Option Addr) (c : Nat) (w : World) (hr : kQ.C w A a.length a) (hc : a.length ≤ c) :
  Calls Tryz.prog 5 #[.slice A a.length c, .int .i64 N] w fun e w' => ∃ v, e = .returned v ∧ kL.R 32 w' w.heap.size (fun _ => True) v (madeOf (a.take N)) ∧ Below w.heap.size w w' := by
 have HS := Aside0.mk hr
 have HA := Aside0.mk ha
 clear hr ha
 have hml : a.length ≤ 9223372036854775807 := by have := HS.out.2.1; omega
 go_enter Tryz.func5, Tryz.ntmps5
 go_wp2_with (first
  | (refine bs0_L (wa := w) rfl rfl rfl w.heap.size (Below.refl _ _) (Nat.le_refl _) ?_; intro v0 w0 hr0 hb0 hs0; have H0 := Aside0.mk (And.intro hr0 hb0); clear hr0 hb0 hs0))
 go_loopw [5, 6] (fun v i wr => ∃ n : Nat, i = .int .i64 (n : Int) ∧ n ≤ a.length ∧ n ≤ N ∧ Aside0 (kL.R 32 wr w.heap.size (fun _ => True) v (madeOf (a.take n)) ∧ Below w.heap.size w wr)) (fun _ i _ => N - (intOf i).toNat)
 case atStart => exact ⟨0, rfl, by omega, by omega, H0⟩
 case round =>
  clear H0
  obtain ⟨n, rfl, hn, hnN, HR⟩ := hrel
  by_cases c5 : n < a.length
  ·by_cases c6 : n < N
   ·have c5b : (n : Int) < (a.length : Int) := by omega
    have c6b : (n : Int) < (N : Int) := by omega
    obtain ⟨y, hy⟩ : ∃ y, y = a.getD n (0, 0) := ⟨_, rfl⟩
    obtain ⟨ad, eA, hat⟩ := at_flat HS.out (0, 0) (n : Int) (by omega) c5b
    subst eA
    rw [show ((n : Int).toNat) = n by omega, ← hy] at hat
    have c5c := eq_true c5b
    have c5d : ((0 : Int) ≤ (n : Int)) = True := eq_true (by omega)
    have hyo : (0 ≤ y.1 ∧ y.1 < 256) ∧ 0 ≤ y.2 ∧ y.2 < 256 := HA.out y (by rw [hy]; exact getD_mem' c5)
    obtain ⟨b0, b1⟩ := y
    have hat0 : w.cell? (ad.add (n * 2)) = some (.int .u8 b0) := by have h := hat 0 _ rfl; rwa [Addr.add_zero'] at h
    have hat1 : w.cell? ⟨(ad.add (n * 2)).block, (ad.add (n * 2)).off + 1, none⟩ = some (.int .u8 b1) := hat 1 _ rfl
    have HAT := Aside0.mk (And.intro hat0 hat1)
    have hsucc := madeOf_succ c5
    rw [← hy] at hsucc
    have HSU := Aside0.mk hsucc
    have HYO := Aside0.mk hyo
    obtain ⟨A5, c7, e5⟩ := Kd.R_slice HR.out.1
    subst e5
    clear hat hat0 hat1 hy hsucc hyo
    go_wp2
    refine start_ (n := 16) (S := fun w' => Below wr.heap.size wr w') (ds := [15]) #[false, false, false, false, false, false, false, false, false, false, false, false, false, false, false, false] (by kernel_rfl) rfl rfl (Below.refl _ _).drew (fun hHeld => ?_)
    refine pure_ (i := 0) (N := some 19) (v := ?_) (a' := ?_) #[true, false, false, false, false, false, false, false, false, false, false, false, false, false, false, false] rfl rfl (by kernel_rfl) (fun _ _ _ h => h) (Or.inl ⟨by rfl, ?_⟩) ?_ ?_
    rotate_left
    ·intro w'
     go_simp
     with_reducible rfl
    rotate_left
    ·simp only [Act.put, lZa, lZb, lZc, i64_w, i32_w]
     rfl
    refine pure_ (i := 1) (N := some 20) (v := ?_) (a' := ?_) #[true, true, false, false, false, false, false, false, false, false, false, false, false, false, false, false] rfl rfl (by kernel_rfl) (fun _ _ _ h => h) (Or.inl ⟨by rfl, ?_⟩) ?_ ?_
    rotate_left
    ·intro w'
     go_simp
     with_reducible rfl
    rotate_left
    ·simp only [Act.put, lZa, lZb, lZc, i64_w, i32_w]
     rfl
    refine pure_ (i := 2) (N := some 21) (v := ?_) (a' := ?_) #[true, true, true, false, false, false, false, false, false, false, false, false, false, false, false, false] rfl rfl (by kernel_rfl) (fun _ _ _ h => h) (Or.inl ⟨by rfl, ?_⟩) ?_ ?_
    rotate_left
    ·intro w'
     go_simp
     with_reducible rfl
    rotate_left
    ·simp only [Act.put, lZa, lZb, lZc, i64_w, i32_w]
     rfl
    refine pure_ (i := 3) (N := some 22) (v := ?_) (a' := ?_) #[true, true, true, true, false, false, false, false, false, false, false, false, false, false, false, false] rfl rfl (by kernel_rfl) (fun _ _ _ h => h) (Or.inl ⟨by rfl, ?_⟩) ?_ ?_
    rotate_left
    ·intro w'
     go_simp
     with_reducible rfl
    rotate_left
    ·simp only [Act.put, lZa, lZb, lZc, i64_w, i32_w]
     rfl
    refine pure_ (i := 4) (N := some 23) (v := ?_) (a' := ?_) #[true, true, true, true, true, false, false, false, false, false, false, false, false, false, false, false] rfl rfl (by kernel_rfl) (fun _ _ _ h => h) (Or.inl ⟨by rfl, ?_⟩) ?_ ?_
    rotate_left
    ·intro w'
     go_simp
     with_reducible rfl
    rotate_left
    ·simp only [Act.put, lZa, lZb, lZc, i64_w, i32_w]
     rfl
    refine pure_ (i := 7) (N := some 26) (v := ?_) (a' := ?_) #[true, true, true, true, true, false, false, true, false, false, false, false, false, false, false, false] rfl rfl (by kernel_rfl) (fun _ _ _ h => h) (Or.inl ⟨by rfl, ?_⟩) ?_ ?_
    rotate_left
    ·intro w'
     go_simp
     with_reducible rfl
    rotate_left
    ·simp only [Act.put, lZa, lZb, lZc, i64_w, i32_w]
     rfl
    refine pure_ (i := 8) (N := some 27) (v := ?_) (a' := ?_) #[true, true, true, true, true, false, false, true, true, false, false, false, false, false, false, false] rfl rfl (by kernel_rfl) (fun _ _ _ h => h) (Or.inl ⟨by rfl, ?_⟩) ?_ ?_
    rotate_left
    ·intro w'
     go_simp
     with_reducible rfl
    rotate_left
    ·simp only [Act.put, lZa, lZb, lZc, i64_w, i32_w]
     rfl
    refine pure_ (i := 9) (N := some 28) (v := ?_) (a' := ?_) #[true, true, true, true, true, false, false, true, true, true, false, false, false, false, false, false] rfl rfl (by kernel_rfl) (fun _ _ _ h => h) (Or.inl ⟨by rfl, ?_⟩) ?_ ?_
    rotate_left
    ·intro w'
     go_simp
     with_reducible rfl
    rotate_left
    ·simp only [Act.put, lZa, lZb, lZc, i64_w, i32_w]
     rfl
    refine pure_ (i := 10) (N := some 29) (v := ?_) (a' := ?_) #[true, true, true, true, true, false, false, true, true, true, true, false, false, false, false, false] rfl rfl (by kernel_rfl) (fun _ _ _ h => h) (Or.inl ⟨by rfl, ?_⟩) ?_ ?_
    rotate_left
    ·intro w'
     go_simp
     with_reducible rfl
    rotate_left
    ·simp only [Act.put, lZa, lZb, lZc, i64_w, i32_w]
     rfl
    refine take_ (i := 5) (N := some 24) (v := ?_) (a' := ?_) #[true, true, true, true, true, true, false, true, true, true, true, false, false, false, false, false] rfl rfl (by kernel_rfl) (fun _ _ _ h => h) (Or.inl ⟨by rfl, ?_⟩) hHeld ?_ ?_
    rotate_left
    ·intro w' hS
     have hx := ((below_tr HR.out.2 hS HR.out.2.size).cell (World.block_lt_of_cell? _ _ HAT.out.1)).trans HAT.out.1
     go_simp
     with_reducible rfl
    rotate_left
    ·simp only [Act.put, lZa, lZb, lZc, i64_w, i32_w]
     rfl
    refine take_ (i := 11) (N := some 30) (v := ?_) (a' := ?_) #[true, true, true, true, true, true, false, true, true, true, true, true, false, false, false, false] rfl rfl (by kernel_rfl) (fun _ _ _ h => h) (Or.inl ⟨by rfl, ?_⟩) hHeld ?_ ?_
    rotate_left
    ·intro w' hS
     have hx := ((below_tr HR.out.2 hS HR.out.2.size).cell (World.block_lt_of_cell? _ _ HAT.out.2)).trans HAT.out.2
     go_simp
     with_reducible rfl
    rotate_left
    ·simp only [Act.put, lZa, lZb, lZc, i64_w, i32_w]
     rfl
    refine pure_ (i := 12) (N := some 31) (v := .agg (cS (sB b1))) (a' := ?_) #[true, true, true, true, true, true, false, true, true, true, true, true, true, false, false, false] rfl rfl (by kernel_rfl) (fun _ _ _ h => h) (Or.inl ⟨by rfl, fun w' => yield_built 30 _ rfl (cS (sB b1)) [(0, .int .u8 b1)] (by simp only [List.map_toArray, List.map_cons, List.map_nil]; rfl) (built_S1 b1 HYO.out.2)⟩) ?_ ?_
    rotate_left
    ·simp only [Act.put, lZa, lZb, lZc, i64_w, i32_w]
     rfl
    refine one_ (i := 6) (N := some 25) #[true, true, true, true, true, true, true, true, true, true, true, true, true, false, false, false] rfl rfl (by kernel_rfl) (by decide) (fun K hK => ?_)
    refine goes_ Tryz.func6 (by kernel_rfl) rfl #[.int .u8 b0] (by rfl) rfl rfl (by simp only [List.map_toArray, List.map_cons, List.map_nil]; rfl) ?_
    refine (Key_calls b0 HYO.out.1 _).mono ?_
    rintro e w3 ⟨rfl, hb3⟩
    refine ⟨_, rfl, ?_⟩
    refine hK.out _ _ (below_tr hHeld hb3 hHeld.size) (fun hHeld => ?_)
    clear hK K
    refine norm_ (a' := ?_) ?_ ?_
    rotate_left
    ·show Act.put _ (some 25) _ = _
     simp only [Act.put, lZa, lZb, lZc, i64_w, i32_w]
     rfl
    refine pure_ (i := 13) (N := some 32) (v := .agg (cL (lfOf (b0, b1)))) (a' := ?_) #[true, true, true, true, true, true, true, true, true, true, true, true, true, true, false, false] rfl rfl (by kernel_rfl) (fun _ _ _ h => h) (Or.inl ⟨by rfl, fun w' => yield_built 32 _ rfl (cL (lfOf (b0, b1))) [(0, .string (keyB b0)), (1, .agg (cS (sB b1)))] (by simp only [List.map_toArray, List.map_cons, List.map_nil]; rfl) (built_L (keyB b0) (sB b1))⟩) ?_ ?_
    rotate_left
    ·simp only [Act.put, lZa, lZb, lZc, i64_w, i32_w]
     rfl
    refine one_ (i := 14) (N := some 33) #[true, true, true, true, true, true, true, true, true, true, true, true, true, true, true, false] rfl rfl (by kernel_rfl) (by decide) (fun K hK => ?_)
    refine goes_ Tryz.func20 (by kernel_rfl) rfl #[.slice A5 (madeOf (a.take n)).length c7, .agg (cL (lfOf (b0, b1)))] (by rfl) rfl rfl (by simp only [List.map_toArray, List.map_cons, List.map_nil]; rfl) ?_
    have hR5 := R_C (Kd.R_below HR.out.1 hHeld)
    refine (put4_calls (madeOf (a.take n)) (lfOf (b0, b1)) A5 c7 _ hR5.2.2 hR5.2.1 (by have := madeOf_small (n := n) (a := a) (by omega) (by omega); omega)).mono ?_
    rw [← HSU.out]
    rintro e w4 ⟨v4, rfl, hv4, hb4⟩
    refine ⟨_, rfl, ?_⟩
    refine hK.out _ _ (below_tr hHeld hb4 hHeld.size) (fun hHeld => ?_)
    clear hK K
    refine norm_ (a' := ?_) ?_ ?_
    rotate_left
    ·show Act.put _ (some 33) _ = _
     simp only [Act.put, lZa, lZb, lZc, i64_w, i32_w]
     rfl
    have hbw := below_tr HR.out.2 hHeld HR.out.2.size
    have H4 := Aside0.mk (And.intro (Kd.R_lower hv4 (below_tr HR.out.2 (by assumption) HR.out.2.size).size) hbw)
    clear hbw
    refine tail_ 15 (by kernel_rfl) ?_
    simp only [List.toList_toArray, List.drop_succ_cons, List.drop_zero]
    go_wp2
    exact ⟨⟨n + 1, by simp, by omega, by omega, H4⟩, by simp [intOf]; omega⟩
   ·obtain rfl : n = N := by omega
    go_wp2
    go_ret
    exact ⟨_, rfl, HR.out⟩
  ·obtain rfl : n = a.length := by omega
   have e : a.take N = a.take a.length := by rw [List.take_length, List.take_of_length_le hnN]
   go_wp2
   go_ret
   exact ⟨_, rfl, by rw [e]; exact HR.out.1, HR.out.2⟩
end Go.Proofs.YtanabbjakacgbaaGreatDoor.Sp
namespace Go.Proofs.YtanabbjakacgbaaGreatDoor.Sp
open Go Go.ChangeShapes Go.WideShapes Go.ChangeAt Go.RowKit Go.Proofs.YtanabbjakacgbaaGreatDoorW.PrintWords Go.Proofs.YtanabbjakacgbaaGreatDoor.Opn
set_option linter.unusedVariables false
set_option linter.unusedSimpArgs false
set_option maxRecDepth 100000
theorem handed_shaped {a : Assume} {C : Checked} {os : Os} {f : FuncId} {fn : Func} {s : ChangeSpec} {conds : List PathCond} {apart fresh handsOn again : Bool} {H : Type} {enc : TypeId × Value → H} {X : World → Array Value → Prop}
  (hX : ∀ (w w' : World) (args : Array Value), w.heap = w'.heap → X w args → X w' args)
  (own : ownKnob C.prog.godebug = none) (started : os.Started) (noInit : C.prog.inits.idxOf? f = none) (hfn : C.prog.funcs[f]? = some fn)
  (witness : ∃ (w : World) (tape : Tape) (i : Input), w.os = os ∧ (w.forCall tape i).Shaped C.prog ∧ i.vars = [] ∧ Input.okWide C.prog (w.forCall tape i) .any w.heap.size f i ∧
   ((s.pre enc C.prog fn conds apart (w.forCall tape i).memory i.args ∧ X (w.forCall tape i).memory i.args) ∧ sizedMet enc C.prog fn (OpenSpec.ofChange s) apart (w.forCall tape i).memory i.args) ∧ a.holds C.prog (lone (Frame.enter C.prog f i.args .normal) [] (w.forCall tape i)))
  (contract : ∀ (W : World) (base : Nat) (args : Array Value) (ds gs : List (DataW H)) (before : List MemPlace), W.ShapedOpen C.prog →
   (∀ (j : Nat) t v, fn.params[j]? = some t → args[j]? = some v → Value.okWide C.prog W .any base t v) →
   DataW.Whole enc C.prog fn.params.toList s.vars apart W args.toList ds gs before →
   (DataW.weightsEach C.prog (fn.params.toList ++ s.plain.varTypes C.prog) (ds ++ gs)).all (· ≤ reachBytes) = true → X W args →
   Calls C.prog f args W fun e W' => ∃ v, e = .returned v ∧ s.post enc C.prog fn apart fresh handsOn again W args v W') :
  ReturnsInHanded a C os f .any (fun w args => (s.pre enc C.prog fn conds apart w args ∧ X w args) ∧ sizedMet enc C.prog fn (OpenSpec.ofChange s) apart w args) (s.post enc C.prog fn apart fresh handsOn again) := by
 refine returnsInHanded_of_calls own started noInit witness ?_
 intro w tape i _ hsh _ hok hpre _
 obtain ⟨_, _, _, fn', hfn', _, _, _, _, hval⟩ := hok
 obtain rfl : fn' = fn := Option.some.inj (hfn'.symm.trans hfn)
 obtain ⟨⟨⟨ds, gs, before, hw, _⟩, hx⟩, hz⟩ := hpre
 refine (contract (w.forCall tape i) w.heap.size i.args ds gs before hsh hval (DataW.Whole.of_heap (by rfl) hw) (hz.weights hw) (hX _ _ _ (by rfl) hx)).mono fun e W' ⟨v, he, hp⟩ => ?_
 subst he
 exact ChangeSpec.post_blind hp
theorem own : ownKnob Tryz.prog.godebug = none := by kernel_rfl
theorem laidOut : laidOutB Tryz.prog = true := by kernel_rfl
abbrev laidW : List (String × DataW Unit) := [("burgage/sponge.words", Rows.laid_burgage_sponge_words)]
theorem gWords : Tryz.prog.globalNamed "burgage/sponge.words" = some 0 := by kernel_rfl
theorem tWords : (Tryz.prog.globals[0]?).map (·.type) = some 95 := by kernel_rfl
theorem rowW : (((begin Tryz.prog (fun _ _ => 0) default).world.heap[0]?).bind Obj.row?).map (fun x => (x.1.size, x.2)) = some (24, 95) := by kernel_rfl
theorem nGlob : 0 < Tryz.prog.globals.size := of_decide_eq_true (by kernel_rfl)
theorem c115 : Tryz.prog.cellsOf 92 = 1 := by kernel_rfl
theorem words_of_laid {W : World} (h : laidMetH Tryz.prog laidW W) (hs : W.ShapedOpen Tryz.prog) : Words W := by
 rw [MakeChecks.laidMetH_plain _ _ _ (by kernel_rfl)] at h
 obtain ⟨ps, ⟨g0, t0, cs0, f0, p0, q0, hg0, ht0, hv0, hd0, _, _⟩, _, _⟩ := h
 obtain rfl := Option.some.inj (gWords.symm.trans hg0)
 obtain rfl := Option.some.inj (tWords.symm.trans ht0)
 obtain ⟨⟨zero, t⟩, hz, hzt⟩ := Option.map_eq_some_iff.1 rowW
 simp only [Prod.mk.injEq] at hzt
 obtain ⟨hz24, rfl⟩ := hzt
 obtain ⟨cs, hcs, hsz, _⟩ := hs.1 0 zero 95 nGlob hz
 have e : cs0 = cs := by
  simp only [World.var?, gWords, Option.bind_some, hcs, Option.some.injEq] at hv0
  exact hv0.symm
 subst e
 obtain ⟨xs, m1, rfl, hx1, hlen, hn, hel⟩ := DataW.trod_array Tryz.underlying95 hd0
 rw [c115] at hel
 have key : cs0 = enc wordsW := by
  apply Array.ext_getElem?
  intro j
  by_cases hj : j < 24
  ·have h1 := hel j hj
   rw [List.getElem?_eq_getElem (by omega)] at h1
   obtain ⟨n, e1, e2, _⟩ := DataW.trod_int Tryz.underlying92 h1
   have e3 : cs0[j]? = some (.int .u64 n) := by
    have := congrArg (·[0]?) e1
    simp only [Nat.mul_one, List.getElem?_take, List.getElem?_drop, Nat.add_zero, Array.getElem?_toList, List.getElem?_cons_zero] at this
    simpa using this
   have e4 : (xs.map (·.1))[j]? = some (.lit (.int .u64 n)) := by rw [List.getElem?_map, List.getElem?_eq_getElem (by omega), Option.map_some, e2]
   have hx2 : xs.map (·.1) = (match (Rows.laid_burgage_sponge_words : DataW Unit) with | .agg l => l | _ => []) := by
    have := congrArg Prod.fst hx1
    simp only at this
    rw [this]
   rw [hx2] at e4
   rw [e3]
   revert e4
   have all : ∀ i : Fin 24, ∀ n, (match (Rows.laid_burgage_sponge_words : DataW Unit) with | .agg l => l | _ => [])[i.val]? = some (.lit (.int .u64 n)) → (enc wordsW)[i.val]? = some (.int .u64 n) := by
    intro i n h
    have hh : ∀ i : Fin 24, (match (Rows.laid_burgage_sponge_words : DataW Unit) with | .agg l => l | _ => [])[i.val]? = ((enc wordsW)[i.val]?).bind fun v => match v with | .int .u64 m => some (DataW.lit (.int .u64 m)) | _ => none := by
     intro i
     match i with
     | ⟨0, _⟩ => rfl | ⟨1, _⟩ => rfl | ⟨2, _⟩ => rfl | ⟨3, _⟩ => rfl | ⟨4, _⟩ => rfl | ⟨5, _⟩ => rfl | ⟨6, _⟩ => rfl | ⟨7, _⟩ => rfl
     | ⟨8, _⟩ => rfl | ⟨9, _⟩ => rfl | ⟨10, _⟩ => rfl | ⟨11, _⟩ => rfl | ⟨12, _⟩ => rfl | ⟨13, _⟩ => rfl | ⟨14, _⟩ => rfl | ⟨15, _⟩ => rfl
     | ⟨16, _⟩ => rfl | ⟨17, _⟩ => rfl | ⟨18, _⟩ => rfl | ⟨19, _⟩ => rfl | ⟨20, _⟩ => rfl | ⟨21, _⟩ => rfl | ⟨22, _⟩ => rfl | ⟨23, _⟩ => rfl | ⟨i + 24, h⟩ => exact absurd h (by omega)
    rw [hh i] at h
    obtain ⟨v, hv, h⟩ := Option.bind_eq_some_iff.1 h
    rw [hv]
    split at h
    ·simp only [Option.some.injEq, DataW.lit.injEq, Lit.int.injEq, true_and] at h
     rw [h]
    ·cases h
   exact fun e4 => (all ⟨j, hj⟩ n e4).symm
  ·rw [Array.getElem?_eq_none (by omega), Array.getElem?_eq_none (by show (enc wordsW).size ≤ j; rw [show (enc wordsW).size = 24 from rfl]; omega)]
 rw [key] at hcs
 exact ⟨hcs, (Array.getElem?_eq_some_iff.1 hcs).1⟩
theorem opn_to {P : Program} {t : TypeId} {α β : Type} {d : Kd α} {F : α → Prop} {d' : Kd β} {F' : β → Prop} (o : Opn P t d F) (g : α → β) (hs : d.sz = d'.sz) (hK : ∀ w x cs, d.K w x cs → d'.K w (g x) cs) (hF : ∀ x, F x → F' (g x)) : Opn P t d' F' :=
 ⟨o.size.trans hs, fun h1 hz => let ⟨a, h2, h3⟩ := o.get h1 hz; ⟨g a, hK _ _ _ h2, hF _ h3⟩⟩
theorem u8_wf {n : Int} (h : (Lit.int .u8 n).wf = true) : 0 ≤ n ∧ n < 256 := by
 simp only [Lit.wf, Bool.and_eq_true, decide_eq_true_eq] at h
 have h1 : IntKind.u8.min = 0 := by decide
 have h2 : IntKind.u8.max = 255 := by decide
 omega
theorem o5 : Opn Tryz.prog 5 (Kd.int .u8) (fun x : Int => 0 ≤ x ∧ x < 256) := opn_to (Opn.int Tryz.underlying5 (by kernel_rfl)) id rfl (fun _ _ _ h => h) (fun _ h => u8_wf h)
theorem oQ : Opn Tryz.prog 55 kQ (fun x : Int × Int => (0 ≤ x.1 ∧ x.1 < 256) ∧ 0 ≤ x.2 ∧ x.2 < 256) :=
 opn_to (Opn.array Tryz.underlying55 (OpnA.cons (by decide) o5 (OpnA.one (by decide) o5)) (fun x : Int × Int => x) (fun p => p) (fun _ => rfl) (by kernel_rfl)) id rfl
  (fun w x cs h => by
   obtain ⟨c1, c2, rfl, h1, h2⟩ := h
   rw [show c1 = [.int .u8 x.1] from h1, show c2 = [.int .u8 x.2] from h2]
   rfl) (fun _ h => h)
theorem o22 : Opn Tryz.prog 22 (Kd.slice 55 kQ) (fun x : List (Int × Int) => x.length ≤ maxLen ∧ x.length * 2 ≤ 140737488351232 ∧ ∀ y ∈ x, (0 ≤ y.1 ∧ y.1 < 256) ∧ 0 ≤ y.2 ∧ y.2 < 256) := Opn.slice (B := 2) Tryz.underlying22 (by kernel_rfl) (by kernel_rfl) oQ
theorem o9 : Opn Tryz.prog 9 Kd.string (fun s : ByteArray => s.size ≤ 140737488351232) := Opn.string Tryz.underlying9 (by kernel_rfl)
theorem door_met (os : Os) (args : Array Value) : laidMetH Tryz.prog laidW ((World.doorLaid Tryz.prog 400 os).forCall (fun _ _ => 0) ⟨#[], args, []⟩).memory :=
 laidMetH_of_parts3 (fuel := 8) (laidMet_of_run' 8 (by kernel_rfl) (by kernel_rfl)) (by kernel_rfl) (by kernel_rfl)
theorem o39 : Opn Tryz.prog 23 (Kd.iso (Kd.pair (Kd.int .u8) (Kd.pair (Kd.int .u8) (Kd.pair (Kd.int .u8) (Kd.int .u8)))) (fun x : Int × Int × Int × Int => x)) (fun x : Int × Int × Int × Int => (0 ≤ x.1 ∧ x.1 < 256) ∧ (0 ≤ x.2.1 ∧ x.2.1 < 256) ∧ (0 ≤ x.2.2.1 ∧ x.2.2.1 < 256) ∧ 0 ≤ x.2.2.2 ∧ x.2.2.2 < 256) :=
 Opn.array Tryz.underlying23 (OpnA.cons (by decide) o5 (OpnA.cons (by decide) o5 (OpnA.cons (by decide) o5 (OpnA.one (by decide) o5)))) (fun x : Int × Int × Int × Int => x) (fun p => p) (fun _ => rfl) (by kernel_rfl)
theorem four_K {w : World} {x : Int × Int × Int × Int} {cs : List Value} (h : (Kd.iso (Kd.pair (Kd.int .u8) (Kd.pair (Kd.int .u8) (Kd.pair (Kd.int .u8) (Kd.int .u8)))) (fun x : Int × Int × Int × Int => x)).K w x cs) : cs = [.int .u8 x.1, .int .u8 x.2.1, .int .u8 x.2.2.1, .int .u8 x.2.2.2] := by
 obtain ⟨c1, r1, rfl, h1, c2, r2, rfl, h2, c3, c4, rfl, h3, h4⟩ := h
 rw [show c1 = [.int .u8 x.1] from h1, show c2 = [.int .u8 x.2.1] from h2, show c3 = [.int .u8 x.2.2.1] from h3, show c4 = [.int .u8 x.2.2.2] from h4]
 rfl
end Go.Proofs.YtanabbjakacgbaaGreatDoor.Sp
namespace Go.Proofs.YtanabbjakacgbaaGreatDoor.Sp
open Go.RowKit Go.Proofs.YtanabbjakacgbaaGreatDoorW.PrintWords Go.Proofs.YtanabbjakacgbaaGreatDoorW.PrintLast Go.Proofs.YtanabbjakacgbaaGreatDoorW.PrintMore Go.Proofs.YtanabbjakacgbaaGreatDoor.PM
set_option linter.unusedVariables false
set_option linter.unusedSimpArgs false
theorem way_mem (s : Sm) : ∀ (k d : Nat) (l : List It) (y : It), y ∈ (wayF k l s d).2 → y ∈ l
 | 0, d, l, y, h => by rw [wayF] at h; exact h
 | k + 1, d, l, y, h => by
  by_cases he : endsOf l d = true
  ·rw [wayF_end s he] at h; exact h
  ·rw [wayF, if_neg he] at h
   exact (List.mem_filter.1 (way_mem s k (d + 1) _ y h)).1
theorem way_len (s : Sm) : ∀ (k d : Nat) (l : List It), (wayF k l s d).1.length ≤ k
 | 0, d, l => by rw [wayF]; exact Nat.le_refl _
 | k + 1, d, l => by
  by_cases he : endsOf l d = true
  ·rw [wayF_end s he]; exact Nat.zero_le _
  ·rw [wayF, if_neg he, List.length_cons]
   exact Nat.succ_le_succ (way_len s k (d + 1) _)
end Go.Proofs.YtanabbjakacgbaaGreatDoor.Sp

