/- Plain Lean functions with the answers of the Go functions that this law reaches, and proofs that the calls come to them; written by this session's program. -/
import Derived.Test.YtebggajdojdebaaVa
import Derived.Test.YtebggajdojdebaaPSx0
import Derived.Test.YtebggajdojdebaaPSx2
import Derived.Test.YtebggajdojdebaaPSx3
import Derived.Test.YtebggajdojdebaaPSx4
import Derived.Test.YtebggajdojdebaaPSx5
import Derived.Test.YtebggajdojdebaaPSx6
namespace Go.Proofs.Ytebggajdojdebaa.PS
open Go.RowKit Go.Proofs.YtebggajdojdebaaW.PrintWords Go.Proofs.YtebggajdojdebaaW.PrintLast Go.Proofs.YtebggajdojdebaaW.PrintMore
/-! #### struct type 41 -/
structure S41 where
 f0 : Int
 f1 : Int
def z41 : S41 := ⟨(0 : Int), (0 : Int)⟩
def k41 : Kd S41 := Kd.iso (Kd.pair (Kd.int .u8) (Kd.int .u8)) (fun x : S41 => (x.f0, x.f1))
theorem k41_open {w : World} {x : S41} {cs : List Value} (h : k41.K w x cs) : cs = [.int .u8 x.f0, .int .u8 x.f1] := by
 obtain ⟨_, _, rfl, rfl, rfl⟩ := h
 exact rfl
theorem k41_openM {w : World} {base : Nat} {ok : Nat → Prop} {x : S41} {cs : List Value} (h : k41.M w base ok x cs) : cs = [.int .u8 x.f0, .int .u8 x.f1] := by
 obtain ⟨_, _, rfl, rfl, rfl⟩ := h
 exact rfl
theorem k41_mk (w : World) (x : S41)  : k41.K w x [.int .u8 x.f0, .int .u8 x.f1] := ⟨[.int .u8 x.f0], [.int .u8 x.f1], rfl, rfl, rfl⟩
theorem k41_mkM (w : World) (base : Nat) (ok : Nat → Prop) (x : S41)  : k41.M w base ok x [.int .u8 x.f0, .int .u8 x.f1] := ⟨[.int .u8 x.f0], [.int .u8 x.f1], rfl, rfl, rfl⟩
def rd_T41 (xs : List S41) (i : Int) : S41 := xs.getD i.toNat z41
theorem at_T41 {w : World} {A : Option Addr} {n : Nat} {xs : List S41} (h : Kd.C k41 w A n xs) (i : Int) (h0 : 0 ≤ i) (h1 : i < n) : ∃ ad , A = some ad ∧ w.cell? (ad.add (i.toNat * 2)) = some (.int .u8 (rd_T41 xs i).f0) ∧ w.cell? ⟨(ad.add (i.toNat * 2)).block, (ad.add (i.toNat * 2)).off + 1, none⟩ = some (.int .u8 (rd_T41 xs i).f1) := by
 obtain ⟨ad, c, e, _, hK, hc0⟩ := Kd.C_get h z41 i h0 h1
 have hc : ∀ j u, c[j]? = some u → w.cell? (ad.add (i.toNat * 2 + j)) = some u := hc0
 obtain rfl := k41_open hK
 exact ⟨ad, e, hc 0 _ rfl, by rw [← add_field _ _ 1 (by omega)]; exact hc 1 _ rfl⟩

attribute [local go_sem] max2_int min2_int max_two min_two max_three min_three max_four min_four   -- for this text's walks alone
set_option linter.unusedVariables false
set_option linter.unusedSimpArgs false

/-! ### l11_SpanOrder: function 9 -/
mutual
def l11_SpanOrder.j0 : Nat → Int → Bool → List (S24) → List (S24) → Int → Bool → Option (Bool)
 | 0, _, _, _, _, _, _ => none
 | k + 1, x2, x7, x8, x9, x10, x86 => if x86 = true then (some false) else (if 0 ≤ x10 then (if x10 < (x8.length : Int) then (if x2 < ((rd_T24 x8 x10).f0) then (l11_SpanOrder.j1 k x2 x7 x8 x9 x10 true) else (l11_SpanOrder.j1 k x2 x7 x8 x9 x10 (decide (x2 > ((rd_T24 x8 x10).f1))))) else (none)) else (none))
def l11_SpanOrder.j1 : Nat → Int → Bool → List (S24) → List (S24) → Int → Bool → Option (Bool)
 | 0, _, _, _, _, _, _ => none
 | k + 1, x2, x7, x8, x9, x10, x102 => if x102 = true then (some x7) else ((some (([] : List (S24)) : List (S24))).bind fun y249 => (if y249.length + x8.length < 8796093022208 then ((some (y249 ++ x8 : List (S24))).bind fun y252 => (if 0 ≤ x10 then (if x10 < (x8.length : Int) then (if x10 < (y252.length : Int) then ((some (y252.set (x10 : Int).toNat (⟨(rd_T24 x8 x10).f0, x2⟩ : S24) : List (S24))).bind fun y256 => ((some (([(⟨x2, (rd_T24 x8 x10).f1⟩ : S24)] : List (S24)) : List (S24))).bind fun y258 => (if y256.length + y258.length < 8796093022208 then ((span_Norm.f (y256 ++ y258)).bind fun t264 => ((r11_Same.f k t264 x9).bind fun t267 => (if t267 = true then (some x7) else (some false)))) else (none)))) else (none)) else (none)) else (none))) else (none)))
end
def l11_SpanOrder.f (k : Nat) (l0 : List (S24)) (a1_0 : Int) (a1_1 : Int) (a2 : Int) : Option (Bool) := (l11_sanity.f k).bind fun t202 => ((l11_short.f l0).bind fun t203 => (if (t203.length : Int) = 0 then ((span_Norm.f t203).bind fun t206 => (if (t206.length : Int) = 0 then (some t202) else (some false))) else ((span_Norm.f t203).bind fun t209 => ((some (([] : List (S24)) : List (S24))).bind fun y212 => (if y212.length + t203.length < 8796093022208 then ((some (y212 ++ t203 : List (S24))).bind fun y215 => (if 0 ≤ (Int.tmod (wrap64 (a1_1)) (t203.length : Int)) then (if (Int.tmod (wrap64 (a1_1)) (t203.length : Int)) < (t203.length : Int) then (if 0 ≤ (Int.tmod (wrap64 (a1_0)) (t203.length : Int)) then (if (Int.tmod (wrap64 (a1_0)) (t203.length : Int)) < (t203.length : Int) then (if (Int.tmod (wrap64 (a1_0)) (t203.length : Int)) < (y215.length : Int) then (if (Int.tmod (wrap64 (a1_1)) (t203.length : Int)) < (y215.length : Int) then ((some (([] : List (S24)) : List (S24))).bind fun y222 => (if y222.length + t203.length < 8796093022208 then ((some (y222 ++ t203 : List (S24))).bind fun y225 => ((some (([(⟨(rd_T24 t203 (Int.tmod (wrap64 (a1_0)) (t203.length : Int))).f0, (rd_T24 t203 (Int.tmod (wrap64 (a1_0)) (t203.length : Int))).f1⟩ : S24)] : List (S24)) : List (S24))).bind fun y229 => (if y225.length + y229.length < 8796093022208 then ((span_Norm.f ((y215.set ((Int.tmod (wrap64 (a1_0)) (t203.length : Int)) : Int).toNat (⟨(rd_T24 t203 (Int.tmod (wrap64 (a1_1)) (t203.length : Int))).f0, (rd_T24 t203 (Int.tmod (wrap64 (a1_1)) (t203.length : Int))).f1⟩ : S24)).set ((Int.tmod (wrap64 (a1_1)) (t203.length : Int)) : Int).toNat (⟨(rd_T24 t203 (Int.tmod (wrap64 (a1_0)) (t203.length : Int))).f0, (rd_T24 t203 (Int.tmod (wrap64 (a1_0)) (t203.length : Int))).f1⟩ : S24))).bind fun t235 => ((r11_Same.f k t235 t209).bind fun t238 => (if t238 = true then ((span_Norm.f (y225 ++ y229)).bind fun t239 => ((r11_Same.f k t239 t209).bind fun t242 => (if t242 = true then ((span_Union.f t203 ([] : List (S24))).bind fun t243 => ((r11_Same.f k t243 t209).bind fun t246 => (l11_SpanOrder.j0 k a2 t202 t203 t209 (Int.tmod (wrap64 (a1_0)) (t203.length : Int)) (!t246)))) else (l11_SpanOrder.j0 k a2 t202 t203 t209 (Int.tmod (wrap64 (a1_0)) (t203.length : Int)) true)))) else (l11_SpanOrder.j0 k a2 t202 t203 t209 (Int.tmod (wrap64 (a1_0)) (t203.length : Int)) true)))) else (none)))) else (none))) else (none)) else (none)) else (none)) else (none)) else (none)) else (none))) else (none))))))
theorem l11_SpanOrder.mono_l : ∀ k, (∀ y0 y1 y2 y3 y4 y5, LeO (l11_SpanOrder.j0 k y0 y1 y2 y3 y4 y5) (l11_SpanOrder.j0 (k + 1) y0 y1 y2 y3 y4 y5)) ∧ (∀ y0 y1 y2 y3 y4 y5, LeO (l11_SpanOrder.j1 k y0 y1 y2 y3 y4 y5) (l11_SpanOrder.j1 (k + 1) y0 y1 y2 y3 y4 y5))
 | 0 => ⟨fun _ _ _ _ _ _ r h => by simp [l11_SpanOrder.j0] at h, fun _ _ _ _ _ _ r h => by simp [l11_SpanOrder.j1] at h⟩
 | k + 1 => by
  obtain ⟨ih0, ih1⟩ := l11_SpanOrder.mono_l k
  refine ⟨?_, ?_⟩
  ·intro y0 y1 y2 y3 y4 y5
   unfold l11_SpanOrder.j0
   repeat' first
   | (with_reducible exact ih0 _ _ _ _ _ _)
   | (with_reducible exact ih1 _ _ _ _ _ _)
   | (with_reducible exact l11_sanity.mono _)
   | (with_reducible exact r11_Same.mono _ _ _)
   | (with_reducible exact LeO.refl _)
   | (with_reducible exact LeO.none _)
   | (with_reducible refine LeO.ite ?_ ?_)
   | (with_reducible refine LeO.bind ?_ (fun _ => ?_))
   | exact ih0 _ _ _ _ _ _
   | exact ih1 _ _ _ _ _ _
   | exact l11_sanity.mono _
   | exact r11_Same.mono _ _ _
   | exact LeO.none _
   | refine LeO.ite ?_ ?_
   | refine LeO.bind ?_ (fun _ => ?_)
  ·intro y0 y1 y2 y3 y4 y5
   unfold l11_SpanOrder.j1
   repeat' first
   | (with_reducible exact ih0 _ _ _ _ _ _)
   | (with_reducible exact ih1 _ _ _ _ _ _)
   | (with_reducible exact l11_sanity.mono _)
   | (with_reducible exact r11_Same.mono _ _ _)
   | (with_reducible exact LeO.refl _)
   | (with_reducible exact LeO.none _)
   | (with_reducible refine LeO.ite ?_ ?_)
   | (with_reducible refine LeO.bind ?_ (fun _ => ?_))
   | exact ih0 _ _ _ _ _ _
   | exact ih1 _ _ _ _ _ _
   | exact l11_sanity.mono _
   | exact r11_Same.mono _ _ _
   | exact LeO.none _
   | refine LeO.ite ?_ ?_
   | refine LeO.bind ?_ (fun _ => ?_)
theorem l11_SpanOrder.mono : ∀ a0 a1 a2 a3 k, LeO (l11_SpanOrder.f k a0 a1 a2 a3) (l11_SpanOrder.f (k + 1) a0 a1 a2 a3) := by
 intro a0 a1 a2 a3 k
 obtain ⟨ih0, ih1⟩ := l11_SpanOrder.mono_l k
 unfold l11_SpanOrder.f
 repeat' first
   | (with_reducible exact ih0 _ _ _ _ _ _)
   | (with_reducible exact ih1 _ _ _ _ _ _)
   | (with_reducible exact l11_sanity.mono _)
   | (with_reducible exact r11_Same.mono _ _ _)
   | (with_reducible exact LeO.refl _)
   | (with_reducible exact LeO.none _)
   | (with_reducible refine LeO.ite ?_ ?_)
   | (with_reducible refine LeO.bind ?_ (fun _ => ?_))
   | exact ih0 _ _ _ _ _ _
   | exact ih1 _ _ _ _ _ _
   | exact l11_sanity.mono _
   | exact r11_Same.mono _ _ _
   | exact LeO.none _
   | refine LeO.ite ?_ ?_
   | refine LeO.bind ?_ (fun _ => ?_)
def l11_SpanOrder.T5 : Bool × List (List Nat × List Nat) := (true, [([], []), ([0], [0]), ([], []), ([2], [2]), ([3], [3]), ([], []), ([5], [5]), ([4, 6], [4, 6]), ([], []), ([8], [8]), ([9], [9]), ([], []), ([11], [11]), ([10, 12], [10, 12]), ([1, 1, 0, 1], [1]), ([7, 14, 0, 1, 2, 3, 4, 5, 6, 7, 14], [7]), ([13, 15, 0, 1, 2, 3, 4, 5, 6, 7, 8, 9, 10, 11, 12, 13, 14, 15], [13])])
def l11_SpanOrder.B5 : List Nat := [0, 1, 0, 4, 12, 0, 32, 124, 0, 256, 768, 0, 2048, 7936, 3, 16639, 65535]
theorem l11_SpanOrder.tab5 : rtab .any (opsOf Try.f9 5) = l11_SpanOrder.T5 := by kernel_rfl
theorem l11_SpanOrder.bits5 : waitsOk l11_SpanOrder.T5.2 l11_SpanOrder.B5 = true := by kernel_rfl
def l11_SpanOrder.T7 : Bool × List (List Nat × List Nat) := (true, [([], []), ([], []), ([], []), ([], []), ([], []), ([], []), ([4, 5], [4, 5]), ([6], [6]), ([], []), ([], []), ([8, 9], [8, 9]), ([10], [10]), ([0, 1, 0, 1, 4, 5, 6, 7, 11], [0, 1]), ([12, 7, 0, 1, 4, 5, 6, 7, 11], [7, 12]), ([2, 3, 0, 1, 2, 3, 4, 5, 6, 7, 8, 9, 10, 11, 12, 13], [2, 3]), ([14, 11, 13, 0, 1, 2, 3, 4, 5, 6, 7, 8, 9, 10, 11, 12, 13], [11, 14])])
def l11_SpanOrder.B7 : List Nat := [0, 0, 0, 0, 0, 0, 48, 112, 0, 0, 768, 1792, 4083, 8179, 16383, 32767]
theorem l11_SpanOrder.tab7 : rtab .any (opsOf Try.f9 7) = l11_SpanOrder.T7 := by kernel_rfl
theorem l11_SpanOrder.bits7 : waitsOk l11_SpanOrder.T7.2 l11_SpanOrder.B7 = true := by kernel_rfl
def l11_SpanOrder.T8 : Bool × List (List Nat × List Nat) := (true, [([], []), ([], []), ([0, 1], [0, 1]), ([], []), ([], []), ([3, 4], [3, 4]), ([5], [5]), ([6], [6]), ([2, 7, 2], [2, 7]), ([8, 8, 0, 1, 2, 3, 4, 5, 6, 7, 8], [8])])
def l11_SpanOrder.B8 : List Nat := [0, 0, 3, 0, 0, 24, 56, 120, 255, 511]
theorem l11_SpanOrder.tab8 : rtab .any (opsOf Try.f9 8) = l11_SpanOrder.T8 := by kernel_rfl
theorem l11_SpanOrder.bits8 : waitsOk l11_SpanOrder.T8.2 l11_SpanOrder.B8 = true := by kernel_rfl
set_option maxHeartbeats 8000000 in
set_option maxRecDepth 100000 in
theorem l11_SpanOrder.calls (k : Nat) (A0 : Option Addr) (c0 : Nat) (l0 : List (S24)) (a1_0 : Int) (a1_1 : Int) (a2 : Int) (r : Bool) (w : World) (hr0 : Kd.C k24 w A0 l0.length l0) (hc0 : l0.length ≤ c0) (hr : r = true) (h : l11_SpanOrder.f k l0 a1_0 a1_1 a2 = some r) :
  Calls Try.prog 9 #[.slice A0 l0.length c0, .agg #[.int .u8 a1_0, .int .u8 a1_1], .int .i64 a2] w fun e w' => e = .returned (.bool r) ∧ Below w.heap.size w w' := by
 have hu41 := Try.underlying41
 have hu24 := Try.underlying24
 have HR0 := Aside0.mk hr0
 have HC0 := Aside0.mk hc0
 clear hr0 hc0
 have HB := Aside0.mk (Below.refl w.heap.size w)
 have HLAW := Aside0.mk hr
 clear hr
 have H : ((l11_sanity.f k).bind fun t202 => ((l11_short.f l0).bind fun t203 => (if (t203.length : Int) = 0 then ((span_Norm.f t203).bind fun t206 => (if (t206.length : Int) = 0 then (some t202) else (some false))) else ((span_Norm.f t203).bind fun t209 => ((some (([] : List (S24)) : List (S24))).bind fun y212 => (if y212.length + t203.length < 8796093022208 then ((some (y212 ++ t203 : List (S24))).bind fun y215 => (if 0 ≤ (Int.tmod (wrap64 (a1_1)) (t203.length : Int)) then (if (Int.tmod (wrap64 (a1_1)) (t203.length : Int)) < (t203.length : Int) then (if 0 ≤ (Int.tmod (wrap64 (a1_0)) (t203.length : Int)) then (if (Int.tmod (wrap64 (a1_0)) (t203.length : Int)) < (t203.length : Int) then (if (Int.tmod (wrap64 (a1_0)) (t203.length : Int)) < (y215.length : Int) then (if (Int.tmod (wrap64 (a1_1)) (t203.length : Int)) < (y215.length : Int) then ((some (([] : List (S24)) : List (S24))).bind fun y222 => (if y222.length + t203.length < 8796093022208 then ((some (y222 ++ t203 : List (S24))).bind fun y225 => ((some (([(⟨(rd_T24 t203 (Int.tmod (wrap64 (a1_0)) (t203.length : Int))).f0, (rd_T24 t203 (Int.tmod (wrap64 (a1_0)) (t203.length : Int))).f1⟩ : S24)] : List (S24)) : List (S24))).bind fun y229 => (if y225.length + y229.length < 8796093022208 then ((span_Norm.f ((y215.set ((Int.tmod (wrap64 (a1_0)) (t203.length : Int)) : Int).toNat (⟨(rd_T24 t203 (Int.tmod (wrap64 (a1_1)) (t203.length : Int))).f0, (rd_T24 t203 (Int.tmod (wrap64 (a1_1)) (t203.length : Int))).f1⟩ : S24)).set ((Int.tmod (wrap64 (a1_1)) (t203.length : Int)) : Int).toNat (⟨(rd_T24 t203 (Int.tmod (wrap64 (a1_0)) (t203.length : Int))).f0, (rd_T24 t203 (Int.tmod (wrap64 (a1_0)) (t203.length : Int))).f1⟩ : S24))).bind fun t235 => ((r11_Same.f k t235 t209).bind fun t238 => (if t238 = true then ((span_Norm.f (y225 ++ y229)).bind fun t239 => ((r11_Same.f k t239 t209).bind fun t242 => (if t242 = true then ((span_Union.f t203 ([] : List (S24))).bind fun t243 => ((r11_Same.f k t243 t209).bind fun t246 => (l11_SpanOrder.j0 k a2 t202 t203 t209 (Int.tmod (wrap64 (a1_0)) (t203.length : Int)) (!t246)))) else (l11_SpanOrder.j0 k a2 t202 t203 t209 (Int.tmod (wrap64 (a1_0)) (t203.length : Int)) true)))) else (l11_SpanOrder.j0 k a2 t202 t203 t209 (Int.tmod (wrap64 (a1_0)) (t203.length : Int)) true)))) else (none)))) else (none))) else (none)) else (none)) else (none)) else (none)) else (none)) else (none))) else (none))))))) = some r := h
 clear h
 replace H := Option.bind_eq_some_iff.mp H
 obtain ⟨t202, A40, H⟩ := H
 replace H : ((l11_short.f l0).bind fun t203 => (if (t203.length : Int) = 0 then ((span_Norm.f t203).bind fun t206 => (if (t206.length : Int) = 0 then (some t202) else (some false))) else ((span_Norm.f t203).bind fun t209 => ((some (([] : List (S24)) : List (S24))).bind fun y212 => (if y212.length + t203.length < 8796093022208 then ((some (y212 ++ t203 : List (S24))).bind fun y215 => (if 0 ≤ (Int.tmod (wrap64 (a1_1)) (t203.length : Int)) then (if (Int.tmod (wrap64 (a1_1)) (t203.length : Int)) < (t203.length : Int) then (if 0 ≤ (Int.tmod (wrap64 (a1_0)) (t203.length : Int)) then (if (Int.tmod (wrap64 (a1_0)) (t203.length : Int)) < (t203.length : Int) then (if (Int.tmod (wrap64 (a1_0)) (t203.length : Int)) < (y215.length : Int) then (if (Int.tmod (wrap64 (a1_1)) (t203.length : Int)) < (y215.length : Int) then ((some (([] : List (S24)) : List (S24))).bind fun y222 => (if y222.length + t203.length < 8796093022208 then ((some (y222 ++ t203 : List (S24))).bind fun y225 => ((some (([(⟨(rd_T24 t203 (Int.tmod (wrap64 (a1_0)) (t203.length : Int))).f0, (rd_T24 t203 (Int.tmod (wrap64 (a1_0)) (t203.length : Int))).f1⟩ : S24)] : List (S24)) : List (S24))).bind fun y229 => (if y225.length + y229.length < 8796093022208 then ((span_Norm.f ((y215.set ((Int.tmod (wrap64 (a1_0)) (t203.length : Int)) : Int).toNat (⟨(rd_T24 t203 (Int.tmod (wrap64 (a1_1)) (t203.length : Int))).f0, (rd_T24 t203 (Int.tmod (wrap64 (a1_1)) (t203.length : Int))).f1⟩ : S24)).set ((Int.tmod (wrap64 (a1_1)) (t203.length : Int)) : Int).toNat (⟨(rd_T24 t203 (Int.tmod (wrap64 (a1_0)) (t203.length : Int))).f0, (rd_T24 t203 (Int.tmod (wrap64 (a1_0)) (t203.length : Int))).f1⟩ : S24))).bind fun t235 => ((r11_Same.f k t235 t209).bind fun t238 => (if t238 = true then ((span_Norm.f (y225 ++ y229)).bind fun t239 => ((r11_Same.f k t239 t209).bind fun t242 => (if t242 = true then ((span_Union.f t203 ([] : List (S24))).bind fun t243 => ((r11_Same.f k t243 t209).bind fun t246 => (l11_SpanOrder.j0 k a2 t202 t203 t209 (Int.tmod (wrap64 (a1_0)) (t203.length : Int)) (!t246)))) else (l11_SpanOrder.j0 k a2 t202 t203 t209 (Int.tmod (wrap64 (a1_0)) (t203.length : Int)) true)))) else (l11_SpanOrder.j0 k a2 t202 t203 t209 (Int.tmod (wrap64 (a1_0)) (t203.length : Int)) true)))) else (none)))) else (none))) else (none)) else (none)) else (none)) else (none)) else (none)) else (none))) else (none)))))) = some r := H
 have A4 := Aside0.mk A40
 clear A40
 replace H := Option.bind_eq_some_iff.mp H
 obtain ⟨t203, A50, H⟩ := H
 replace H : (if (t203.length : Int) = 0 then ((span_Norm.f t203).bind fun t206 => (if (t206.length : Int) = 0 then (some t202) else (some false))) else ((span_Norm.f t203).bind fun t209 => ((some (([] : List (S24)) : List (S24))).bind fun y212 => (if y212.length + t203.length < 8796093022208 then ((some (y212 ++ t203 : List (S24))).bind fun y215 => (if 0 ≤ (Int.tmod (wrap64 (a1_1)) (t203.length : Int)) then (if (Int.tmod (wrap64 (a1_1)) (t203.length : Int)) < (t203.length : Int) then (if 0 ≤ (Int.tmod (wrap64 (a1_0)) (t203.length : Int)) then (if (Int.tmod (wrap64 (a1_0)) (t203.length : Int)) < (t203.length : Int) then (if (Int.tmod (wrap64 (a1_0)) (t203.length : Int)) < (y215.length : Int) then (if (Int.tmod (wrap64 (a1_1)) (t203.length : Int)) < (y215.length : Int) then ((some (([] : List (S24)) : List (S24))).bind fun y222 => (if y222.length + t203.length < 8796093022208 then ((some (y222 ++ t203 : List (S24))).bind fun y225 => ((some (([(⟨(rd_T24 t203 (Int.tmod (wrap64 (a1_0)) (t203.length : Int))).f0, (rd_T24 t203 (Int.tmod (wrap64 (a1_0)) (t203.length : Int))).f1⟩ : S24)] : List (S24)) : List (S24))).bind fun y229 => (if y225.length + y229.length < 8796093022208 then ((span_Norm.f ((y215.set ((Int.tmod (wrap64 (a1_0)) (t203.length : Int)) : Int).toNat (⟨(rd_T24 t203 (Int.tmod (wrap64 (a1_1)) (t203.length : Int))).f0, (rd_T24 t203 (Int.tmod (wrap64 (a1_1)) (t203.length : Int))).f1⟩ : S24)).set ((Int.tmod (wrap64 (a1_1)) (t203.length : Int)) : Int).toNat (⟨(rd_T24 t203 (Int.tmod (wrap64 (a1_0)) (t203.length : Int))).f0, (rd_T24 t203 (Int.tmod (wrap64 (a1_0)) (t203.length : Int))).f1⟩ : S24))).bind fun t235 => ((r11_Same.f k t235 t209).bind fun t238 => (if t238 = true then ((span_Norm.f (y225 ++ y229)).bind fun t239 => ((r11_Same.f k t239 t209).bind fun t242 => (if t242 = true then ((span_Union.f t203 ([] : List (S24))).bind fun t243 => ((r11_Same.f k t243 t209).bind fun t246 => (l11_SpanOrder.j0 k a2 t202 t203 t209 (Int.tmod (wrap64 (a1_0)) (t203.length : Int)) (!t246)))) else (l11_SpanOrder.j0 k a2 t202 t203 t209 (Int.tmod (wrap64 (a1_0)) (t203.length : Int)) true)))) else (l11_SpanOrder.j0 k a2 t202 t203 t209 (Int.tmod (wrap64 (a1_0)) (t203.length : Int)) true)))) else (none)))) else (none))) else (none)) else (none)) else (none)) else (none)) else (none)) else (none))) else (none))))) = some r := H
 have A5 := Aside0.mk A50
 clear A50
 by_cases c6 : (t203.length : Int) = 0
 ·rw [if_pos c6] at H
  have c6b0 : ((t203.length : Int) == 0) = true := beq_iff_eq.mpr c6
  have c6b1 : ((t203.length : Int) != 0) = false := bne_eq_false_iff_eq.mpr c6
  clear c6
  replace H := Option.bind_eq_some_iff.mp H
  obtain ⟨t206, A70, H⟩ := H
  replace H : (if (t206.length : Int) = 0 then (some t202) else (some false)) = some r := H
  have A7 := Aside0.mk A70
  clear A70
  by_cases c8 : (t206.length : Int) = 0
  ·rw [if_pos c8] at H
   have c8b0 : ((t206.length : Int) == 0) = true := beq_iff_eq.mpr c8
   have c8b1 : ((t206.length : Int) != 0) = false := bne_eq_false_iff_eq.mpr c8
   clear c8
   clear HLAW
   obtain rfl := Option.some.inj H
   go_enter Try.func9, Try.ntmps9
   go_wp2_with (first | ((with_reducible refine gate_dst (N := 4) rfl ?_); refine box_event ?hg (N := 4) ?hd (cs := #[.int .u8 a1_0, .int .u8 a1_1]) (t := 41) ?hr ?_; (case hd => rfl); (case hg => rfl); (case hr => first | (go_simp; done) | (go_simp; rfl)); intro gb201 hg w9 hbox hb; have n0_ := Aside0.mk (below_step (by repeat (first | (with_reducible first | exact HB.out | apply below_alloc | apply pw_below_drewN | apply below_drew1) | exact HB.out)) hb); have n1_ := Aside0.mk (hbox); have n2_ := Aside0.mk ((by rw [hg]; exact (below_size (by repeat (first | (with_reducible first | exact HB.out | apply below_alloc | apply pw_below_drewN | apply below_drew1) | exact HB.out))) : w.heap.size ≤ gb201)); have n3_ := Aside0.mk ((by rw [hg]; exact (below_size (by repeat (first | (with_reducible first | exact HB.out | apply below_alloc | apply pw_below_drewN | apply below_drew1) | exact HB.out))) : w.heap.size ≤ gb201)); clear HB; have HB := n0_; have BK201 := n1_; have GW201 := n2_; have GE201 := n3_; clear n0_ n1_ n2_ n3_; clear hb hbox hg) | ((with_reducible refine gate_callee (f := 10) rfl ?_); refine goesL_ (some 15) rfl rfl Try.func10 (by kernel_rfl) rfl #[] rfl (by (try simp only [List.map_toArray, List.map_cons, List.map_nil]); first | done | rfl | (simp only [List.length_drop, List.length_take]; rfl)) ?_; (with_reducible refine (l11_sanity.calls k  t202 _ A4.out).mono ?_); rintro e w10 ⟨rfl, hb⟩; refine ⟨_, rfl, ?_⟩; have n0_ := Aside0.mk (blk_below (g := gb201) (o := .cells #[.int .u8 a1_0, .int .u8 a1_1] 41 (0, 0)) (by (with_reducible repeat (first | refine blk_drewN ?_ _ | refine blk_drew ?_ | refine blk_alloc ?_ _)); exact BK201.out) hb); have n1_ := Aside0.mk (below_step (by repeat (first | (with_reducible first | exact HB.out | apply below_alloc | apply pw_below_drewN | apply below_drew1 | refine below_set ?_ GE201.out) | exact HB.out)) hb); clear BK201; clear HB; have BK201 := n0_; have HB := n1_; clear n0_ n1_; (try clear hb); (try clear hb2); (try clear hk); (try clear hi)) | ((with_reducible refine gate_callee (f := 11) rfl ?_); refine goesL_ (some 17) rfl rfl Try.func11 (by kernel_rfl) rfl #[.slice A0 l0.length c0] rfl (by (try simp only [List.map_toArray, List.map_cons, List.map_nil]); first | done | rfl | (simp only [List.length_drop, List.length_take]; rfl)) ?_; (with_reducible refine (l11_short.calls _ _ l0 t203 _ ?side1 ?side2 A5.out).mono ?_); (case side1 => repeat (first | exact (Kd.C_below HR0.out HB.out) | (with_reducible refine Kd.C_alloc ?_ _) | (with_reducible refine Kd.C_drewN ?_ _) | (with_reducible refine Kd.C_drew ?_))); (case side2 => exact HC0.out); rintro e w11 ⟨v204, rfl, ho0, hb⟩; refine ⟨_, rfl, ?_⟩; have n0_ := Aside0.mk (Kd.R_lower ho0 (below_size (by repeat (first | (with_reducible first | exact HB.out | apply below_alloc | apply pw_below_drewN | apply below_drew1 | refine below_set ?_ GE201.out) | exact HB.out)))); have n1_ := Aside0.mk (blk_below (g := gb201) (o := .cells #[.int .u8 a1_0, .int .u8 a1_1] 41 (0, 0)) (by (with_reducible repeat (first | refine blk_drewN ?_ _ | refine blk_drew ?_ | refine blk_alloc ?_ _)); exact BK201.out) hb); have n2_ := Aside0.mk (below_step (by repeat (first | (with_reducible first | exact HB.out | apply below_alloc | apply pw_below_drewN | apply below_drew1 | refine below_set ?_ GE201.out) | exact HB.out)) hb); clear BK201; clear HB; have HO205 := n0_; have BK201 := n1_; have HB := n2_; clear n0_ n1_ n2_; (try clear hb); (try clear hb2); (try clear hk); (try clear hi); (try clear ho0); obtain ⟨Ao12, co12, eo12⟩ := Kd.R_slice HO205.out; subst eo12) | ((with_reducible refine gate_callee (f := 15) rfl ?_); refine goesL_ (some 22) rfl rfl Try.func15 (by kernel_rfl) rfl #[.slice Ao12 t203.length co12] rfl (by (try simp only [List.map_toArray, List.map_cons, List.map_nil]); first | done | rfl | (simp only [List.length_drop, List.length_take]; rfl)) ?_; (with_reducible refine (span_Norm.calls _ _ t203 t206 _ ?side1 ?side2 A7.out).mono ?_); (case side1 => repeat (first | exact (Kd.R_reads' HO205.out).2.2 | (with_reducible refine Kd.C_alloc ?_ _) | (with_reducible refine Kd.C_drewN ?_ _) | (with_reducible refine Kd.C_drew ?_))); (case side2 => exact (Kd.R_reads' HO205.out).2.1); rintro e w13 ⟨v207, rfl, ho0, hb⟩; refine ⟨_, rfl, ?_⟩; have n0_ := Aside0.mk (Kd.R_elder' (by (with_reducible repeat (first | apply Kd.R_alloc | apply Kd.R_drewN | apply Kd.R_drew)); exact HO205.out) (Kd.R_base ho0) hb); have n1_ := Aside0.mk (Kd.R_lower (Kd.R_new' ho0 (Kd.R_lt (by (with_reducible repeat (first | apply Kd.R_alloc | apply Kd.R_drewN | apply Kd.R_drew)); exact HO205.out))) (below_size (by repeat (first | (with_reducible first | exact HB.out | apply below_alloc | apply pw_below_drewN | apply below_drew1 | refine below_set ?_ GE201.out) | exact HB.out)))); have n2_ := Aside0.mk (blk_below (g := gb201) (o := .cells #[.int .u8 a1_0, .int .u8 a1_1] 41 (0, 0)) (by (with_reducible repeat (first | refine blk_drewN ?_ _ | refine blk_drew ?_ | refine blk_alloc ?_ _)); exact BK201.out) hb); have n3_ := Aside0.mk (below_step (by repeat (first | (with_reducible first | exact HB.out | apply below_alloc | apply pw_below_drewN | apply below_drew1 | refine below_set ?_ GE201.out) | exact HB.out)) hb); clear HO205; clear BK201; clear HB; have HO205 := n0_; have HO208 := n1_; have BK201 := n2_; have HB := n3_; clear n0_ n1_ n2_ n3_; (try clear hb); (try clear hb2); (try clear hk); (try clear hi); (try clear ho0); obtain ⟨Ao14, co14, eo14⟩ := Kd.R_slice HO208.out; subst eo14))
   go_ret
   exact ⟨by first | rfl | (simp [errW_none, errW_some] <;> rfl) | (simp [*, errW_none, errW_some] <;> rfl) | (exfalso; simp_all only [aside0_iff, Option.some.injEq, reduceCtorEq]), by repeat (first | (with_reducible first | exact HB.out | apply below_alloc | apply pw_below_drewN | apply below_drew1 | refine below_set ?_ GE201.out) | exact HB.out)⟩
  ·rw [if_neg c8] at H
   have c8b0 : ((t206.length : Int) == 0) = false := beq_eq_false_iff_ne.mpr c8
   have c8b1 : ((t206.length : Int) != 0) = true := bne_iff_ne.mpr c8
   have c8b2 : ¬ (t206 = []) := fun h_ => c8 (by rw [h_]; rfl)
   exact absurd ((Option.some.inj H).trans HLAW.out) (by decide)
 ·rw [if_neg c6] at H
  have c6b0 : ((t203.length : Int) == 0) = false := beq_eq_false_iff_ne.mpr c6
  have c6b1 : ((t203.length : Int) != 0) = true := bne_iff_ne.mpr c6
  have c6b2 : ¬ (t203 = []) := fun h_ => c6 (by rw [h_]; rfl)
  replace H := Option.bind_eq_some_iff.mp H
  obtain ⟨t209, A150, H⟩ := H
  replace H : ((some (([] : List (S24)) : List (S24))).bind fun y212 => (if y212.length + t203.length < 8796093022208 then ((some (y212 ++ t203 : List (S24))).bind fun y215 => (if 0 ≤ (Int.tmod (wrap64 (a1_1)) (t203.length : Int)) then (if (Int.tmod (wrap64 (a1_1)) (t203.length : Int)) < (t203.length : Int) then (if 0 ≤ (Int.tmod (wrap64 (a1_0)) (t203.length : Int)) then (if (Int.tmod (wrap64 (a1_0)) (t203.length : Int)) < (t203.length : Int) then (if (Int.tmod (wrap64 (a1_0)) (t203.length : Int)) < (y215.length : Int) then (if (Int.tmod (wrap64 (a1_1)) (t203.length : Int)) < (y215.length : Int) then ((some (([] : List (S24)) : List (S24))).bind fun y222 => (if y222.length + t203.length < 8796093022208 then ((some (y222 ++ t203 : List (S24))).bind fun y225 => ((some (([(⟨(rd_T24 t203 (Int.tmod (wrap64 (a1_0)) (t203.length : Int))).f0, (rd_T24 t203 (Int.tmod (wrap64 (a1_0)) (t203.length : Int))).f1⟩ : S24)] : List (S24)) : List (S24))).bind fun y229 => (if y225.length + y229.length < 8796093022208 then ((span_Norm.f ((y215.set ((Int.tmod (wrap64 (a1_0)) (t203.length : Int)) : Int).toNat (⟨(rd_T24 t203 (Int.tmod (wrap64 (a1_1)) (t203.length : Int))).f0, (rd_T24 t203 (Int.tmod (wrap64 (a1_1)) (t203.length : Int))).f1⟩ : S24)).set ((Int.tmod (wrap64 (a1_1)) (t203.length : Int)) : Int).toNat (⟨(rd_T24 t203 (Int.tmod (wrap64 (a1_0)) (t203.length : Int))).f0, (rd_T24 t203 (Int.tmod (wrap64 (a1_0)) (t203.length : Int))).f1⟩ : S24))).bind fun t235 => ((r11_Same.f k t235 t209).bind fun t238 => (if t238 = true then ((span_Norm.f (y225 ++ y229)).bind fun t239 => ((r11_Same.f k t239 t209).bind fun t242 => (if t242 = true then ((span_Union.f t203 ([] : List (S24))).bind fun t243 => ((r11_Same.f k t243 t209).bind fun t246 => (l11_SpanOrder.j0 k a2 t202 t203 t209 (Int.tmod (wrap64 (a1_0)) (t203.length : Int)) (!t246)))) else (l11_SpanOrder.j0 k a2 t202 t203 t209 (Int.tmod (wrap64 (a1_0)) (t203.length : Int)) true)))) else (l11_SpanOrder.j0 k a2 t202 t203 t209 (Int.tmod (wrap64 (a1_0)) (t203.length : Int)) true)))) else (none)))) else (none))) else (none)) else (none)) else (none)) else (none)) else (none)) else (none))) else (none))) = some r := H
  have A15 := Aside0.mk A150
  clear A150
  obtain ⟨y212, hy212⟩ : ∃ y_ : List (S24), y_ = (([] : List (S24))) := ⟨_, rfl⟩
  replace H : (if y212.length + t203.length < 8796093022208 then ((some (y212 ++ t203 : List (S24))).bind fun y215 => (if 0 ≤ (Int.tmod (wrap64 (a1_1)) (t203.length : Int)) then (if (Int.tmod (wrap64 (a1_1)) (t203.length : Int)) < (t203.length : Int) then (if 0 ≤ (Int.tmod (wrap64 (a1_0)) (t203.length : Int)) then (if (Int.tmod (wrap64 (a1_0)) (t203.length : Int)) < (t203.length : Int) then (if (Int.tmod (wrap64 (a1_0)) (t203.length : Int)) < (y215.length : Int) then (if (Int.tmod (wrap64 (a1_1)) (t203.length : Int)) < (y215.length : Int) then ((some (([] : List (S24)) : List (S24))).bind fun y222 => (if y222.length + t203.length < 8796093022208 then ((some (y222 ++ t203 : List (S24))).bind fun y225 => ((some (([(⟨(rd_T24 t203 (Int.tmod (wrap64 (a1_0)) (t203.length : Int))).f0, (rd_T24 t203 (Int.tmod (wrap64 (a1_0)) (t203.length : Int))).f1⟩ : S24)] : List (S24)) : List (S24))).bind fun y229 => (if y225.length + y229.length < 8796093022208 then ((span_Norm.f ((y215.set ((Int.tmod (wrap64 (a1_0)) (t203.length : Int)) : Int).toNat (⟨(rd_T24 t203 (Int.tmod (wrap64 (a1_1)) (t203.length : Int))).f0, (rd_T24 t203 (Int.tmod (wrap64 (a1_1)) (t203.length : Int))).f1⟩ : S24)).set ((Int.tmod (wrap64 (a1_1)) (t203.length : Int)) : Int).toNat (⟨(rd_T24 t203 (Int.tmod (wrap64 (a1_0)) (t203.length : Int))).f0, (rd_T24 t203 (Int.tmod (wrap64 (a1_0)) (t203.length : Int))).f1⟩ : S24))).bind fun t235 => ((r11_Same.f k t235 t209).bind fun t238 => (if t238 = true then ((span_Norm.f (y225 ++ y229)).bind fun t239 => ((r11_Same.f k t239 t209).bind fun t242 => (if t242 = true then ((span_Union.f t203 ([] : List (S24))).bind fun t243 => ((r11_Same.f k t243 t209).bind fun t246 => (l11_SpanOrder.j0 k a2 t202 t203 t209 (Int.tmod (wrap64 (a1_0)) (t203.length : Int)) (!t246)))) else (l11_SpanOrder.j0 k a2 t202 t203 t209 (Int.tmod (wrap64 (a1_0)) (t203.length : Int)) true)))) else (l11_SpanOrder.j0 k a2 t202 t203 t209 (Int.tmod (wrap64 (a1_0)) (t203.length : Int)) true)))) else (none)))) else (none))) else (none)) else (none)) else (none)) else (none)) else (none)) else (none))) else (none)) = some r := by first | (rw [hy212]; with_reducible exact H) | (have H2_ := (Option.bind_some _ _).symm.trans H; rw [hy212]; with_reducible exact H2_) | (have H2_ := (Option.bind_some _ _).symm.trans H; with_reducible exact H2_) | with_reducible exact H | (rw [hy212]; exact H) | exact H
  have Ny212 := Aside0.mk hy212
  clear hy212
  by_cases c16 : y212.length + t203.length < 8796093022208
  ·rw [if_pos c16] at H
   have LMc16 := Aside0.mk c16
   clear c16
   obtain ⟨y215, hy215⟩ : ∃ y_ : List (S24), y_ = (y212 ++ t203) := ⟨_, rfl⟩
   replace H : (if 0 ≤ (Int.tmod (wrap64 (a1_1)) (t203.length : Int)) then (if (Int.tmod (wrap64 (a1_1)) (t203.length : Int)) < (t203.length : Int) then (if 0 ≤ (Int.tmod (wrap64 (a1_0)) (t203.length : Int)) then (if (Int.tmod (wrap64 (a1_0)) (t203.length : Int)) < (t203.length : Int) then (if (Int.tmod (wrap64 (a1_0)) (t203.length : Int)) < (y215.length : Int) then (if (Int.tmod (wrap64 (a1_1)) (t203.length : Int)) < (y215.length : Int) then ((some (([] : List (S24)) : List (S24))).bind fun y222 => (if y222.length + t203.length < 8796093022208 then ((some (y222 ++ t203 : List (S24))).bind fun y225 => ((some (([(⟨(rd_T24 t203 (Int.tmod (wrap64 (a1_0)) (t203.length : Int))).f0, (rd_T24 t203 (Int.tmod (wrap64 (a1_0)) (t203.length : Int))).f1⟩ : S24)] : List (S24)) : List (S24))).bind fun y229 => (if y225.length + y229.length < 8796093022208 then ((span_Norm.f ((y215.set ((Int.tmod (wrap64 (a1_0)) (t203.length : Int)) : Int).toNat (⟨(rd_T24 t203 (Int.tmod (wrap64 (a1_1)) (t203.length : Int))).f0, (rd_T24 t203 (Int.tmod (wrap64 (a1_1)) (t203.length : Int))).f1⟩ : S24)).set ((Int.tmod (wrap64 (a1_1)) (t203.length : Int)) : Int).toNat (⟨(rd_T24 t203 (Int.tmod (wrap64 (a1_0)) (t203.length : Int))).f0, (rd_T24 t203 (Int.tmod (wrap64 (a1_0)) (t203.length : Int))).f1⟩ : S24))).bind fun t235 => ((r11_Same.f k t235 t209).bind fun t238 => (if t238 = true then ((span_Norm.f (y225 ++ y229)).bind fun t239 => ((r11_Same.f k t239 t209).bind fun t242 => (if t242 = true then ((span_Union.f t203 ([] : List (S24))).bind fun t243 => ((r11_Same.f k t243 t209).bind fun t246 => (l11_SpanOrder.j0 k a2 t202 t203 t209 (Int.tmod (wrap64 (a1_0)) (t203.length : Int)) (!t246)))) else (l11_SpanOrder.j0 k a2 t202 t203 t209 (Int.tmod (wrap64 (a1_0)) (t203.length : Int)) true)))) else (l11_SpanOrder.j0 k a2 t202 t203 t209 (Int.tmod (wrap64 (a1_0)) (t203.length : Int)) true)))) else (none)))) else (none))) else (none)) else (none)) else (none)) else (none)) else (none)) else (none)) = some r := by first | (rw [hy215]; with_reducible exact H) | (have H2_ := (Option.bind_some _ _).symm.trans H; rw [hy215]; with_reducible exact H2_) | (have H2_ := (Option.bind_some _ _).symm.trans H; with_reducible exact H2_) | with_reducible exact H | (rw [hy215]; exact H) | exact H
   have Ny215 := Aside0.mk hy215
   clear hy215
   obtain ⟨ji17, hji17⟩ : ∃ j_ : Int, (Int.tmod (wrap64 (a1_1)) (t203.length : Int)) = j_ := ⟨_, rfl⟩
   replace H : (if 0 ≤ (ji17) then (if (ji17) < (t203.length : Int) then (if 0 ≤ (Int.tmod (wrap64 (a1_0)) (t203.length : Int)) then (if (Int.tmod (wrap64 (a1_0)) (t203.length : Int)) < (t203.length : Int) then (if (Int.tmod (wrap64 (a1_0)) (t203.length : Int)) < (y215.length : Int) then (if (ji17) < (y215.length : Int) then ((some (([] : List (S24)) : List (S24))).bind fun y222 => (if y222.length + t203.length < 8796093022208 then ((some (y222 ++ t203 : List (S24))).bind fun y225 => ((some (([(⟨(rd_T24 t203 (Int.tmod (wrap64 (a1_0)) (t203.length : Int))).f0, (rd_T24 t203 (Int.tmod (wrap64 (a1_0)) (t203.length : Int))).f1⟩ : S24)] : List (S24)) : List (S24))).bind fun y229 => (if y225.length + y229.length < 8796093022208 then ((span_Norm.f ((y215.set ((Int.tmod (wrap64 (a1_0)) (t203.length : Int)) : Int).toNat (⟨(rd_T24 t203 (ji17)).f0, (rd_T24 t203 (ji17)).f1⟩ : S24)).set ((ji17) : Int).toNat (⟨(rd_T24 t203 (Int.tmod (wrap64 (a1_0)) (t203.length : Int))).f0, (rd_T24 t203 (Int.tmod (wrap64 (a1_0)) (t203.length : Int))).f1⟩ : S24))).bind fun t235 => ((r11_Same.f k t235 t209).bind fun t238 => (if t238 = true then ((span_Norm.f (y225 ++ y229)).bind fun t239 => ((r11_Same.f k t239 t209).bind fun t242 => (if t242 = true then ((span_Union.f t203 ([] : List (S24))).bind fun t243 => ((r11_Same.f k t243 t209).bind fun t246 => (l11_SpanOrder.j0 k a2 t202 t203 t209 (Int.tmod (wrap64 (a1_0)) (t203.length : Int)) (!t246)))) else (l11_SpanOrder.j0 k a2 t202 t203 t209 (Int.tmod (wrap64 (a1_0)) (t203.length : Int)) true)))) else (l11_SpanOrder.j0 k a2 t202 t203 t209 (Int.tmod (wrap64 (a1_0)) (t203.length : Int)) true)))) else (none)))) else (none))) else (none)) else (none)) else (none)) else (none)) else (none)) else (none)) = some r := by first | (rw [hji17] at H; exact H) | (simp only [hji17] at H ⊢; exact H)
   (try rw [hji17] at A4)
   (try rw [hji17] at A5)
   (try rw [hji17] at A15)
   by_cases c18 : 0 ≤ (ji17)
   ·rw [if_pos c18] at H
    have c18b0 : decide (0 ≤ (ji17)) = true := decide_eq_true c18
    clear c18
    by_cases c19 : (ji17) < (t203.length : Int)
    ·rw [if_pos c19] at H
     have c19b0 : decide ((ji17) < (t203.length : Int)) = true := decide_eq_true c19
     clear c19
     obtain ⟨ji20, hji20⟩ : ∃ j_ : Int, (Int.tmod (wrap64 (a1_0)) (t203.length : Int)) = j_ := ⟨_, rfl⟩
     replace H : (if 0 ≤ (ji20) then (if (ji20) < (t203.length : Int) then (if (ji20) < (y215.length : Int) then (if (ji17) < (y215.length : Int) then ((some (([] : List (S24)) : List (S24))).bind fun y222 => (if y222.length + t203.length < 8796093022208 then ((some (y222 ++ t203 : List (S24))).bind fun y225 => ((some (([(⟨(rd_T24 t203 (ji20)).f0, (rd_T24 t203 (ji20)).f1⟩ : S24)] : List (S24)) : List (S24))).bind fun y229 => (if y225.length + y229.length < 8796093022208 then ((span_Norm.f ((y215.set ((ji20) : Int).toNat (⟨(rd_T24 t203 (ji17)).f0, (rd_T24 t203 (ji17)).f1⟩ : S24)).set ((ji17) : Int).toNat (⟨(rd_T24 t203 (ji20)).f0, (rd_T24 t203 (ji20)).f1⟩ : S24))).bind fun t235 => ((r11_Same.f k t235 t209).bind fun t238 => (if t238 = true then ((span_Norm.f (y225 ++ y229)).bind fun t239 => ((r11_Same.f k t239 t209).bind fun t242 => (if t242 = true then ((span_Union.f t203 ([] : List (S24))).bind fun t243 => ((r11_Same.f k t243 t209).bind fun t246 => (l11_SpanOrder.j0 k a2 t202 t203 t209 ji20 (!t246)))) else (l11_SpanOrder.j0 k a2 t202 t203 t209 ji20 true)))) else (l11_SpanOrder.j0 k a2 t202 t203 t209 ji20 true)))) else (none)))) else (none))) else (none)) else (none)) else (none)) else (none)) = some r := by first | (rw [hji20] at H; exact H) | (simp only [hji20] at H ⊢; exact H)
     (try rw [hji20] at A4)
     (try rw [hji20] at A5)
     (try rw [hji20] at A15)
     by_cases c21 : 0 ≤ (ji20)
     ·rw [if_pos c21] at H
      have c21b0 : decide (0 ≤ (ji20)) = true := decide_eq_true c21
      clear c21
      by_cases c22 : (ji20) < (t203.length : Int)
      ·rw [if_pos c22] at H
       have c22b0 : decide ((ji20) < (t203.length : Int)) = true := decide_eq_true c22
       clear c22
       by_cases c23 : (ji20) < (y215.length : Int)
       ·rw [if_pos c23] at H
        have c23b0 : decide ((ji20) < (y215.length : Int)) = true := decide_eq_true c23
        clear c23
        obtain ⟨y220, hy220⟩ : ∃ y_ : List (S24), y_ = (y215.set ((ji20) : Int).toNat (⟨(rd_T24 t203 (ji17)).f0, (rd_T24 t203 (ji17)).f1⟩ : S24)) := ⟨_, rfl⟩
        replace H : (if (ji17) < (y215.length : Int) then ((some (([] : List (S24)) : List (S24))).bind fun y222 => (if y222.length + t203.length < 8796093022208 then ((some (y222 ++ t203 : List (S24))).bind fun y225 => ((some (([(⟨(rd_T24 t203 (ji20)).f0, (rd_T24 t203 (ji20)).f1⟩ : S24)] : List (S24)) : List (S24))).bind fun y229 => (if y225.length + y229.length < 8796093022208 then ((span_Norm.f (y220.set ((ji17) : Int).toNat (⟨(rd_T24 t203 (ji20)).f0, (rd_T24 t203 (ji20)).f1⟩ : S24))).bind fun t235 => ((r11_Same.f k t235 t209).bind fun t238 => (if t238 = true then ((span_Norm.f (y225 ++ y229)).bind fun t239 => ((r11_Same.f k t239 t209).bind fun t242 => (if t242 = true then ((span_Union.f t203 ([] : List (S24))).bind fun t243 => ((r11_Same.f k t243 t209).bind fun t246 => (l11_SpanOrder.j0 k a2 t202 t203 t209 ji20 (!t246)))) else (l11_SpanOrder.j0 k a2 t202 t203 t209 ji20 true)))) else (l11_SpanOrder.j0 k a2 t202 t203 t209 ji20 true)))) else (none)))) else (none))) else (none)) = some r := by first | (rw [hy220]; with_reducible exact H) | (have H2_ := (Option.bind_some _ _).symm.trans H; rw [hy220]; with_reducible exact H2_) | (have H2_ := (Option.bind_some _ _).symm.trans H; with_reducible exact H2_) | with_reducible exact H | (rw [hy220]; exact H) | exact H
        have Ny220 := Aside0.mk hy220
        clear hy220
        by_cases c25 : (ji17) < (y215.length : Int)
        ·rw [if_pos c25] at H
         have c25b0 : decide ((ji17) < (y215.length : Int)) = true := decide_eq_true c25
         clear c25
         obtain ⟨y221, hy221⟩ : ∃ y_ : List (S24), y_ = (y220.set ((ji17) : Int).toNat (⟨(rd_T24 t203 (ji20)).f0, (rd_T24 t203 (ji20)).f1⟩ : S24)) := ⟨_, rfl⟩
         replace H : ((some (([] : List (S24)) : List (S24))).bind fun y222 => (if y222.length + t203.length < 8796093022208 then ((some (y222 ++ t203 : List (S24))).bind fun y225 => ((some (([(⟨(rd_T24 t203 (ji20)).f0, (rd_T24 t203 (ji20)).f1⟩ : S24)] : List (S24)) : List (S24))).bind fun y229 => (if y225.length + y229.length < 8796093022208 then ((span_Norm.f y221).bind fun t235 => ((r11_Same.f k t235 t209).bind fun t238 => (if t238 = true then ((span_Norm.f (y225 ++ y229)).bind fun t239 => ((r11_Same.f k t239 t209).bind fun t242 => (if t242 = true then ((span_Union.f t203 ([] : List (S24))).bind fun t243 => ((r11_Same.f k t243 t209).bind fun t246 => (l11_SpanOrder.j0 k a2 t202 t203 t209 ji20 (!t246)))) else (l11_SpanOrder.j0 k a2 t202 t203 t209 ji20 true)))) else (l11_SpanOrder.j0 k a2 t202 t203 t209 ji20 true)))) else (none)))) else (none))) = some r := by first | (rw [hy221]; with_reducible exact H) | (have H2_ := (Option.bind_some _ _).symm.trans H; rw [hy221]; with_reducible exact H2_) | (have H2_ := (Option.bind_some _ _).symm.trans H; with_reducible exact H2_) | with_reducible exact H | (rw [hy221]; exact H) | exact H
         have Ny221 := Aside0.mk hy221
         clear hy221
         obtain ⟨y222, hy222⟩ : ∃ y_ : List (S24), y_ = (([] : List (S24))) := ⟨_, rfl⟩
         replace H : (if y222.length + t203.length < 8796093022208 then ((some (y222 ++ t203 : List (S24))).bind fun y225 => ((some (([(⟨(rd_T24 t203 (ji20)).f0, (rd_T24 t203 (ji20)).f1⟩ : S24)] : List (S24)) : List (S24))).bind fun y229 => (if y225.length + y229.length < 8796093022208 then ((span_Norm.f y221).bind fun t235 => ((r11_Same.f k t235 t209).bind fun t238 => (if t238 = true then ((span_Norm.f (y225 ++ y229)).bind fun t239 => ((r11_Same.f k t239 t209).bind fun t242 => (if t242 = true then ((span_Union.f t203 ([] : List (S24))).bind fun t243 => ((r11_Same.f k t243 t209).bind fun t246 => (l11_SpanOrder.j0 k a2 t202 t203 t209 ji20 (!t246)))) else (l11_SpanOrder.j0 k a2 t202 t203 t209 ji20 true)))) else (l11_SpanOrder.j0 k a2 t202 t203 t209 ji20 true)))) else (none)))) else (none)) = some r := by first | (rw [hy222]; with_reducible exact H) | (have H2_ := (Option.bind_some _ _).symm.trans H; rw [hy222]; with_reducible exact H2_) | (have H2_ := (Option.bind_some _ _).symm.trans H; with_reducible exact H2_) | with_reducible exact H | (rw [hy222]; exact H) | exact H
         have Ny222 := Aside0.mk hy222
         clear hy222
         by_cases c27 : y222.length + t203.length < 8796093022208
         ·rw [if_pos c27] at H
          have LMc27 := Aside0.mk c27
          clear c27
          obtain ⟨y225, hy225⟩ : ∃ y_ : List (S24), y_ = (y222 ++ t203) := ⟨_, rfl⟩
          replace H : ((some (([(⟨(rd_T24 t203 (ji20)).f0, (rd_T24 t203 (ji20)).f1⟩ : S24)] : List (S24)) : List (S24))).bind fun y229 => (if y225.length + y229.length < 8796093022208 then ((span_Norm.f y221).bind fun t235 => ((r11_Same.f k t235 t209).bind fun t238 => (if t238 = true then ((span_Norm.f (y225 ++ y229)).bind fun t239 => ((r11_Same.f k t239 t209).bind fun t242 => (if t242 = true then ((span_Union.f t203 ([] : List (S24))).bind fun t243 => ((r11_Same.f k t243 t209).bind fun t246 => (l11_SpanOrder.j0 k a2 t202 t203 t209 ji20 (!t246)))) else (l11_SpanOrder.j0 k a2 t202 t203 t209 ji20 true)))) else (l11_SpanOrder.j0 k a2 t202 t203 t209 ji20 true)))) else (none))) = some r := by first | (rw [hy225]; with_reducible exact H) | (have H2_ := (Option.bind_some _ _).symm.trans H; rw [hy225]; with_reducible exact H2_) | (have H2_ := (Option.bind_some _ _).symm.trans H; with_reducible exact H2_) | with_reducible exact H | (rw [hy225]; exact H) | exact H
          have Ny225 := Aside0.mk hy225
          clear hy225
          obtain ⟨y229, hy229⟩ : ∃ y_ : List (S24), y_ = (([(⟨(rd_T24 t203 (ji20)).f0, (rd_T24 t203 (ji20)).f1⟩ : S24)] : List (S24))) := ⟨_, rfl⟩
          replace H : (if y225.length + y229.length < 8796093022208 then ((span_Norm.f y221).bind fun t235 => ((r11_Same.f k t235 t209).bind fun t238 => (if t238 = true then ((span_Norm.f (y225 ++ y229)).bind fun t239 => ((r11_Same.f k t239 t209).bind fun t242 => (if t242 = true then ((span_Union.f t203 ([] : List (S24))).bind fun t243 => ((r11_Same.f k t243 t209).bind fun t246 => (l11_SpanOrder.j0 k a2 t202 t203 t209 ji20 (!t246)))) else (l11_SpanOrder.j0 k a2 t202 t203 t209 ji20 true)))) else (l11_SpanOrder.j0 k a2 t202 t203 t209 ji20 true)))) else (none)) = some r := by first | (rw [hy229]; with_reducible exact H) | (have H2_ := (Option.bind_some _ _).symm.trans H; rw [hy229]; with_reducible exact H2_) | (have H2_ := (Option.bind_some _ _).symm.trans H; with_reducible exact H2_) | with_reducible exact H | (rw [hy229]; exact H) | exact H
          have Ny229 := Aside0.mk hy229
          clear hy229
          by_cases c28 : y225.length + y229.length < 8796093022208
          ·rw [if_pos c28] at H
           have LMc28 := Aside0.mk c28
           clear c28
           obtain ⟨y232, hy232⟩ : ∃ y_ : List (S24), y_ = (y225 ++ y229) := ⟨_, rfl⟩
           replace H : ((span_Norm.f y221).bind fun t235 => ((r11_Same.f k t235 t209).bind fun t238 => (if t238 = true then ((span_Norm.f y232).bind fun t239 => ((r11_Same.f k t239 t209).bind fun t242 => (if t242 = true then ((span_Union.f t203 ([] : List (S24))).bind fun t243 => ((r11_Same.f k t243 t209).bind fun t246 => (l11_SpanOrder.j0 k a2 t202 t203 t209 ji20 (!t246)))) else (l11_SpanOrder.j0 k a2 t202 t203 t209 ji20 true)))) else (l11_SpanOrder.j0 k a2 t202 t203 t209 ji20 true)))) = some r := by first | (rw [hy232]; with_reducible exact H) | (have H2_ := (Option.bind_some _ _).symm.trans H; rw [hy232]; with_reducible exact H2_) | (have H2_ := (Option.bind_some _ _).symm.trans H; with_reducible exact H2_) | with_reducible exact H | (rw [hy232]; exact H) | exact H
           have Ny232 := Aside0.mk hy232
           clear hy232
           have HC29 := Aside0.mk H
           clear H
           go_enter Try.func9, Try.ntmps9
           try go_wp2_with (first | ((with_reducible refine gate_dst (N := 4) rfl ?_); refine box_event ?hg (N := 4) ?hd (cs := #[.int .u8 a1_0, .int .u8 a1_1]) (t := 41) ?hr ?_; (case hd => rfl); (case hg => rfl); (case hr => first | (go_simp; done) | (go_simp; rfl)); intro gb201 hg w30 hbox hb; have n0_ := Aside0.mk (below_step (by repeat (first | (with_reducible first | exact HB.out | apply below_alloc | apply pw_below_drewN | apply below_drew1) | exact HB.out)) hb); have n1_ := Aside0.mk (hbox); have n2_ := Aside0.mk ((by rw [hg]; exact (below_size (by repeat (first | (with_reducible first | exact HB.out | apply below_alloc | apply pw_below_drewN | apply below_drew1) | exact HB.out))) : w.heap.size ≤ gb201)); have n3_ := Aside0.mk ((by rw [hg]; exact (below_size (by repeat (first | (with_reducible first | exact HB.out | apply below_alloc | apply pw_below_drewN | apply below_drew1) | exact HB.out))) : w.heap.size ≤ gb201)); clear HB; have HB := n0_; have BK201 := n1_; have GW201 := n2_; have GE201 := n3_; clear n0_ n1_ n2_ n3_; clear hb hbox hg) | ((with_reducible refine gate_callee (f := 10) rfl ?_); refine goesL_ (some 15) rfl rfl Try.func10 (by kernel_rfl) rfl #[] rfl (by (try simp only [List.map_toArray, List.map_cons, List.map_nil]); first | done | rfl | (simp only [List.length_drop, List.length_take]; rfl)) ?_; (with_reducible refine (l11_sanity.calls k  t202 _ A4.out).mono ?_); rintro e w31 ⟨rfl, hb⟩; refine ⟨_, rfl, ?_⟩; have n0_ := Aside0.mk (blk_below (g := gb201) (o := .cells #[.int .u8 a1_0, .int .u8 a1_1] 41 (0, 0)) (by (with_reducible repeat (first | refine blk_drewN ?_ _ | refine blk_drew ?_ | refine blk_alloc ?_ _)); exact BK201.out) hb); have n1_ := Aside0.mk (below_step (by repeat (first | (with_reducible first | exact HB.out | apply below_alloc | apply pw_below_drewN | apply below_drew1 | refine below_set ?_ GE201.out) | exact HB.out)) hb); clear BK201; clear HB; have BK201 := n0_; have HB := n1_; clear n0_ n1_; (try clear hb); (try clear hb2); (try clear hk); (try clear hi)) | ((with_reducible refine gate_callee (f := 11) rfl ?_); refine goesL_ (some 17) rfl rfl Try.func11 (by kernel_rfl) rfl #[.slice A0 l0.length c0] rfl (by (try simp only [List.map_toArray, List.map_cons, List.map_nil]); first | done | rfl | (simp only [List.length_drop, List.length_take]; rfl)) ?_; (with_reducible refine (l11_short.calls _ _ l0 t203 _ ?side1 ?side2 A5.out).mono ?_); (case side1 => repeat (first | exact (Kd.C_below HR0.out HB.out) | (with_reducible refine Kd.C_alloc ?_ _) | (with_reducible refine Kd.C_drewN ?_ _) | (with_reducible refine Kd.C_drew ?_))); (case side2 => exact HC0.out); rintro e w32 ⟨v204, rfl, ho0, hb⟩; refine ⟨_, rfl, ?_⟩; have n0_ := Aside0.mk (Kd.R_lower ho0 (below_size (by repeat (first | (with_reducible first | exact HB.out | apply below_alloc | apply pw_below_drewN | apply below_drew1 | refine below_set ?_ GE201.out) | exact HB.out)))); have n1_ := Aside0.mk (blk_below (g := gb201) (o := .cells #[.int .u8 a1_0, .int .u8 a1_1] 41 (0, 0)) (by (with_reducible repeat (first | refine blk_drewN ?_ _ | refine blk_drew ?_ | refine blk_alloc ?_ _)); exact BK201.out) hb); have n2_ := Aside0.mk (below_step (by repeat (first | (with_reducible first | exact HB.out | apply below_alloc | apply pw_below_drewN | apply below_drew1 | refine below_set ?_ GE201.out) | exact HB.out)) hb); clear BK201; clear HB; have HO205 := n0_; have BK201 := n1_; have HB := n2_; clear n0_ n1_ n2_; (try clear hb); (try clear hb2); (try clear hk); (try clear hi); (try clear ho0); obtain ⟨Ao33, co33, eo33⟩ := Kd.R_slice HO205.out; subst eo33))
           have n0_ := Aside0.mk (Kd.R_drew HO205.out)
           have n1_ := Aside0.mk (blk_drew BK201.out)
           have n2_ := Aside0.mk (below_drew1 HB.out)
           clear HO205
           clear BK201
           clear HB
           have HO205 := n0_
           have BK201 := n1_
           have HB := n2_
           clear n0_ n1_ n2_
           refine start_ (n := 17) (S := fun w' => w'.cell? ⟨gb201, 0, none⟩ = some (.int .u8 a1_0) ∧ w'.cell? ⟨gb201, 1, none⟩ = some (.int .u8 a1_1)) (ds := []) #[false, false, false, false, false, false, false, false, false, false, false, false, false, false, false, false, false] (by kernel_rfl) rfl rfl ⟨(blk_cell BK201.out 0).trans rfl, (blk_cell BK201.out 1).trans rfl⟩ (fun hHeld => ?_); refine with_tabW l11_SpanOrder.tab5 l11_SpanOrder.bits5 (fun HT_ HW_ => ?_)
           generalize w32.drew = w34 at HO205 BK201 HB hHeld ⊢
           refine pure_ (i := 0) (N := some 28) (v := ?_) (a' := ?_) #[true, false, false, false, false, false, false, false, false, false, false, false, false, false, false, false, false] rfl rfl (any_of HT_.out (by kernel_rfl)) (fun _ _ _ h => h) (Or.inl ⟨by rfl, ?_⟩) ?_ ?_
           rotate_left
           ·intro w'
            go_simp
            with_reducible rfl
           rotate_left
           ·simp only [Act.put, List.setIfInBounds_toArray, List.set_cons_zero, List.set_cons_succ, i64_w, i32_w]
            rfl
           refine pure_ (i := 2) (N := some 30) (v := ?_) (a' := ?_) #[true, false, true, false, false, false, false, false, false, false, false, false, false, false, false, false, false] rfl rfl (any_of HT_.out (by kernel_rfl)) (fun _ _ _ h => h) (Or.inl ⟨by rfl, ?_⟩) ?_ ?_
           rotate_left
           ·intro w'
            go_simp
            with_reducible rfl
           rotate_left
           ·simp only [Act.put, List.setIfInBounds_toArray, List.set_cons_zero, List.set_cons_succ, i64_w, i32_w]
            rfl
           refine pure_ (i := 5) (N := some 33) (v := ?_) (a' := ?_) #[true, false, true, false, false, true, false, false, false, false, false, false, false, false, false, false, false] rfl rfl (any_of HT_.out (by kernel_rfl)) (fun _ _ _ h => h) (Or.inl ⟨by rfl, ?_⟩) ?_ ?_
           rotate_left
           ·intro w'
            go_simp
            with_reducible rfl
           rotate_left
           ·simp only [Act.put, List.setIfInBounds_toArray, List.set_cons_zero, List.set_cons_succ, i64_w, i32_w]
            rfl
           refine pure_ (i := 6) (N := some 34) (v := ?_) (a' := ?_) #[true, false, true, false, false, true, true, false, false, false, false, false, false, false, false, false, false] rfl rfl (any_of HT_.out (by kernel_rfl)) (fun _ _ _ h => h) (Or.inl ⟨by rfl, ?_⟩) ?_ ?_
           rotate_left
           ·intro w'
            go_simp
            with_reducible rfl
           rotate_left
           ·simp only [Act.put, List.setIfInBounds_toArray, List.set_cons_zero, List.set_cons_succ, i64_w, i32_w]
            rfl
           refine pure_ (i := 8) (N := some 36) (v := ?_) (a' := ?_) #[true, false, true, false, false, true, true, false, true, false, false, false, false, false, false, false, false] rfl rfl (any_of HT_.out (by kernel_rfl)) (fun _ _ _ h => h) (Or.inl ⟨by rfl, ?_⟩) ?_ ?_
           rotate_left
           ·intro w'
            go_simp
            with_reducible rfl
           rotate_left
           ·simp only [Act.put, List.setIfInBounds_toArray, List.set_cons_zero, List.set_cons_succ, i64_w, i32_w]
            rfl
           refine pure_ (i := 11) (N := some 39) (v := ?_) (a' := ?_) #[true, false, true, false, false, true, true, false, true, false, false, true, false, false, false, false, false] rfl rfl (any_of HT_.out (by kernel_rfl)) (fun _ _ _ h => h) (Or.inl ⟨by rfl, ?_⟩) ?_ ?_
           rotate_left
           ·intro w'
            go_simp
            with_reducible rfl
           rotate_left
           ·simp only [Act.put, List.setIfInBounds_toArray, List.set_cons_zero, List.set_cons_succ, i64_w, i32_w]
            rfl
           refine pure_ (i := 12) (N := some 40) (v := ?_) (a' := ?_) #[true, false, true, false, false, true, true, false, true, false, false, true, true, false, false, false, false] rfl rfl (any_of HT_.out (by kernel_rfl)) (fun _ _ _ h => h) (Or.inl ⟨by rfl, ?_⟩) ?_ ?_
           rotate_left
           ·intro w'
            go_simp
            with_reducible rfl
           rotate_left
           ·simp only [Act.put, List.setIfInBounds_toArray, List.set_cons_zero, List.set_cons_succ, i64_w, i32_w]
            rfl
           refine take_ (i := 3) (N := some 31) (v := ?_) (a' := ?_) #[true, false, true, true, false, true, true, false, true, false, false, true, true, false, false, false, false] rfl rfl (take_ofW HT_.out HW_.out (by kernel_rfl)) (fun _ _ _ h => h) (Or.inl ⟨by rfl, ?_⟩) hHeld ?_ ?_
           rotate_left
           ·rintro w' ⟨s0, s1⟩
            go_simp
            with_reducible rfl
           rotate_left
           ·simp only [Act.put, List.setIfInBounds_toArray, List.set_cons_zero, List.set_cons_succ, i64_w, i32_w]
            rfl
           refine pure_ (i := 4) (N := some 32) (v := ?_) (a' := ?_) #[true, false, true, true, true, true, true, false, true, false, false, true, true, false, false, false, false] rfl rfl (any_of HT_.out (by kernel_rfl)) (fun _ _ _ h => h) (Or.inl ⟨by rfl, ?_⟩) ?_ ?_
           rotate_left
           ·intro w'
            go_simp
            with_reducible rfl
           rotate_left
           ·simp only [Act.put, List.setIfInBounds_toArray, List.set_cons_zero, List.set_cons_succ, i64_w, i32_w]
            rfl
           refine pure_ (i := 7) (N := some 35) (v := ?_) (a' := ?_) #[true, false, true, true, true, true, true, true, true, false, false, true, true, false, false, false, false] rfl rfl (any_of HT_.out (by kernel_rfl)) (fun _ _ _ h => h) (Or.inl ⟨by rfl, ?_⟩) ?_ ?_
           rotate_left
           ·intro w'
            go_simp
            with_reducible rfl
           rotate_left
           ·simp only [Act.put, List.setIfInBounds_toArray, List.set_cons_zero, List.set_cons_succ, i64_w, i32_w]
            rfl
           refine take_ (i := 9) (N := some 37) (v := ?_) (a' := ?_) #[true, false, true, true, true, true, true, true, true, true, false, true, true, false, false, false, false] rfl rfl (take_ofW HT_.out HW_.out (by kernel_rfl)) (fun _ _ _ h => h) (Or.inl ⟨by rfl, ?_⟩) hHeld ?_ ?_
           rotate_left
           ·rintro w' ⟨s0, s1⟩
            go_simp
            with_reducible rfl
           rotate_left
           ·simp only [Act.put, List.setIfInBounds_toArray, List.set_cons_zero, List.set_cons_succ, i64_w, i32_w]
            rfl
           refine pure_ (i := 10) (N := some 38) (v := ?_) (a' := ?_) #[true, false, true, true, true, true, true, true, true, true, true, true, true, false, false, false, false] rfl rfl (any_of HT_.out (by kernel_rfl)) (fun _ _ _ h => h) (Or.inl ⟨by rfl, ?_⟩) ?_ ?_
           rotate_left
           ·intro w'
            go_simp
            with_reducible rfl
           rotate_left
           ·simp only [Act.put, List.setIfInBounds_toArray, List.set_cons_zero, List.set_cons_succ, i64_w, i32_w]
            rfl
           refine pure_ (i := 13) (N := some 41) (v := ?_) (a' := ?_) #[true, false, true, true, true, true, true, true, true, true, true, true, true, true, false, false, false] rfl rfl (any_of HT_.out (by kernel_rfl)) (fun _ _ _ h => h) (Or.inl ⟨by rfl, ?_⟩) ?_ ?_
           rotate_left
           ·intro w'
            go_simp
            with_reducible rfl
           rotate_left
           ·simp only [Act.put, List.setIfInBounds_toArray, List.set_cons_zero, List.set_cons_succ, i64_w, i32_w]
            rfl
           refine one_ (i := 1) (N := some 29) #[true, true, true, true, true, true, true, true, true, true, true, true, true, true, false, false, false] rfl rfl (one_of HT_.out (by kernel_rfl)) (by decide) (fun K hK => ?_)
           refine goes_ Try.func15 (by kernel_rfl) rfl #[.slice Ao33 t203.length co33] (by rfl) rfl rfl (by (try simp only [List.map_toArray, List.map_cons, List.map_nil]); first | done | rfl | (simp only [List.length_drop, List.length_take]; rfl)) ?_
           with_reducible refine (span_Norm.calls _ _ t203 t209 _ ?side1 ?side2 A15.out).mono ?_
           (case side1 => repeat (first | exact (Kd.R_reads' HO205.out).2.2 | (with_reducible refine Kd.C_alloc ?_ _) | (with_reducible refine Kd.C_drewN ?_ _) | (with_reducible refine Kd.C_drew ?_)))
           (case side2 => exact (Kd.R_reads' HO205.out).2.1)
           rintro e w35 ⟨v210, rfl, ho0, hb⟩
           refine ⟨_, rfl, ?_⟩
           have n0_ := Aside0.mk (Kd.R_elder' (by (with_reducible repeat (first | apply Kd.R_alloc | apply Kd.R_drewN | apply Kd.R_drew)); exact HO205.out) (Kd.R_base ho0) hb)
           have n1_ := Aside0.mk (Kd.R_lower (Kd.R_new' ho0 (Kd.R_lt (by (with_reducible repeat (first | apply Kd.R_alloc | apply Kd.R_drewN | apply Kd.R_drew)); exact HO205.out))) (below_size (by repeat (first | (with_reducible first | exact HB.out | apply below_alloc | apply pw_below_drewN | apply below_drew1 | refine below_set ?_ GE201.out) | exact HB.out))))
           have n2_ := Aside0.mk (blk_below (g := gb201) (o := .cells #[.int .u8 a1_0, .int .u8 a1_1] 41 (0, 0)) (by (with_reducible repeat (first | refine blk_drewN ?_ _ | refine blk_drew ?_ | refine blk_alloc ?_ _)); exact BK201.out) hb)
           have n3_ := Aside0.mk (below_step (by repeat (first | (with_reducible first | exact HB.out | apply below_alloc | apply pw_below_drewN | apply below_drew1 | refine below_set ?_ GE201.out) | exact HB.out)) hb)
           clear HO205
           clear BK201
           clear HB
           have HO205 := n0_
           have HO211 := n1_
           have BK201 := n2_
           have HB := n3_
           clear n0_ n1_ n2_ n3_
           (try clear hb)
           (try clear hb2)
           (try clear hk)
           (try clear hi)
           (try clear ho0)
           refine hK.out _ _ ⟨(blk_cell BK201.out 0).trans rfl, (blk_cell BK201.out 1).trans rfl⟩ (fun hHeld => ?_)
           clear hK K
           refine norm_ (a' := ?_) ?_ ?_
           rotate_left
           ·show Act.put _ (some 29) _ = _
            simp only [Act.put, List.setIfInBounds_toArray, List.set_cons_zero, List.set_cons_succ, i64_w, i32_w]
            rfl
           refine pure_ (i := 14) (N := some 9) (v := ?_) (a' := ?_) #[true, true, true, true, true, true, true, true, true, true, true, true, true, true, true, false, false] rfl rfl (any_of HT_.out (by kernel_rfl)) (fun _ _ _ h => h) (Or.inl ⟨by rfl, ?_⟩) ?_ ?_
           rotate_left
           ·intro w'
            go_simp
            with_reducible rfl
           rotate_left
           ·simp only [Act.put, List.setIfInBounds_toArray, List.set_cons_zero, List.set_cons_succ, i64_w, i32_w]
            rfl
           refine pure_ (i := 15) (N := some 10) (v := ?_) (a' := ?_) #[true, true, true, true, true, true, true, true, true, true, true, true, true, true, true, true, false] rfl rfl (any_of HT_.out (by kernel_rfl)) (fun _ _ _ h => h) (Or.inl ⟨by rfl, ?_⟩) ?_ ?_
           rotate_left
           ·intro w'
            go_simp
            with_reducible rfl
           rotate_left
           ·simp only [Act.put, List.setIfInBounds_toArray, List.set_cons_zero, List.set_cons_succ, i64_w, i32_w]
            rfl
           refine pure_ (i := 16) (N := some 11) (v := ?_) (a' := ?_) #[true, true, true, true, true, true, true, true, true, true, true, true, true, true, true, true, true] rfl rfl (any_of HT_.out (by kernel_rfl)) (fun _ _ _ h => h) (Or.inl ⟨by rfl, ?_⟩) ?_ ?_
           rotate_left
           ·intro w'
            go_simp
            with_reducible rfl
           rotate_left
           ·simp only [Act.put, List.setIfInBounds_toArray, List.set_cons_zero, List.set_cons_succ, i64_w, i32_w]
            rfl
           refine done_ (done_of HT_.out (by kernel_rfl)) ?_
           try go_wp2_with (first | ((with_reducible refine gate_dst (N := 42) rfl ?_); refine Kd.R_lit k24 _ 24 ?hg (N := 42) ?hd (xs := ([] : List (S24))) (inner := []) (ok := fun _ => True) (okp := fun _ => True) ?hr ?hp (fun _ hk => hk) trivial (Below.refl _ _) (Nat.le_refl _) (by simp) ?_; (case hd => rfl); (case hg => rfl); (case hr => first | (go_simp; done) | (go_simp; rfl)); (case hp => exact (Reps.none _ _)); intro v213 w36 ho37 hb hg_ hnew_; clear hg_ hnew_; (first | rw [← Ny212.out] at ho37 | (simp only [Int.reduceToNat] at ho37; rw [← Ny212.out] at ho37)); have n0_ := Aside0.mk (Kd.R_elder' (by (with_reducible repeat (first | apply Kd.R_alloc | apply Kd.R_drewN | apply Kd.R_drew)); exact HO205.out) (Kd.R_base ho37) hb); have n1_ := Aside0.mk (Kd.R_elder' (by (with_reducible repeat (first | apply Kd.R_alloc | apply Kd.R_drewN | apply Kd.R_drew)); exact HO211.out) (Kd.R_base ho37) hb); have n2_ := Aside0.mk (Kd.R_lower (Kd.R_new' (Kd.R_new' ho37 (Kd.R_lt (by (with_reducible repeat (first | apply Kd.R_alloc | apply Kd.R_drewN | apply Kd.R_drew)); exact HO205.out))) (Kd.R_lt (by (with_reducible repeat (first | apply Kd.R_alloc | apply Kd.R_drewN | apply Kd.R_drew)); exact HO211.out))) (below_size (by repeat (first | (with_reducible first | exact HB.out | apply below_alloc | apply pw_below_drewN | apply below_drew1 | refine below_set ?_ GE201.out) | exact HB.out)))); have n3_ := Aside0.mk (blk_below (g := gb201) (o := .cells #[.int .u8 a1_0, .int .u8 a1_1] 41 (0, 0)) (by (with_reducible repeat (first | refine blk_drewN ?_ _ | refine blk_drew ?_ | refine blk_alloc ?_ _)); exact BK201.out) hb); have n4_ := Aside0.mk (below_step (by repeat (first | (with_reducible first | exact HB.out | apply below_alloc | apply pw_below_drewN | apply below_drew1 | refine below_set ?_ GE201.out) | exact HB.out)) hb); clear HO205; clear HO211; clear BK201; clear HB; have HO205 := n0_; have HO211 := n1_; have HO214 := n2_; have BK201 := n3_; have HB := n4_; clear n0_ n1_ n2_ n3_ n4_; clear hb ho37) | ((with_reducible refine gate_builtin (b := .append) (xs := #[.tmp 42, .tmp 43]) rfl ?_); at_builtin; refine Kd.R_append_rows k24 (w0 := w) w.heap.size rfl (.tmp 42) (.tmp 43) 22 24 (.agg #[(.int .i64 0), (.int .i64 0)]) 16 rfl Try.underlying22 info24 rfl (by decide) (by omega) v213 y212 t203 _ _ _ (fun k_ => some k_ ≠ (.slice Ao33 t203.length co33 : Value).ownBlock ∧ some k_ ≠ (v210 : Value).ownBlock) (fun _ => False) rfl rfl ?aO ?aR (fun _ _ h => h) (fun _ h => h.elim) ?aF ?aB ?aS ?aL ?_; (case aR => repeat (first | exact (Kd.R_reads' HO205.out).2.2 | (with_reducible refine Kd.C_alloc ?_ _) | (with_reducible refine Kd.C_drewN ?_ _) | (with_reducible refine Kd.C_drew ?_))); (case aB => exact (by repeat (first | (with_reducible first | exact HB.out | apply below_alloc | apply pw_below_drewN | apply below_drew1 | refine below_set ?_ GE201.out) | exact HB.out))); (case aF => exact (fun k_ hk => ⟨Kd.fresh' (Kd.R_lt (by (with_reducible repeat (first | apply Kd.R_alloc | apply Kd.R_drewN | apply Kd.R_drew)); exact HO205.out)) k_ hk, Kd.fresh' (Kd.R_lt (by (with_reducible repeat (first | apply Kd.R_alloc | apply Kd.R_drewN | apply Kd.R_drew)); exact HO211.out)) k_ hk⟩)); (case aO => exact (by (with_reducible repeat (first | apply Kd.R_alloc | apply Kd.R_drewN | apply Kd.R_drew)); exact Kd.R_mono HO214.out (fun _ hk => ⟨hk.1.2, hk.2⟩))); (case aS => exact (below_size (by repeat (first | (with_reducible first | exact HB.out | apply below_alloc | apply pw_below_drewN | apply below_drew1 | refine below_set ?_ GE201.out) | exact HB.out)))); (case aL => have := LMc16.out; omega); intro v216 w38 ho hb hg hat; rw [← Ny215.out] at ho; have n0_ := Aside0.mk (blk_grown (g := gb201) (o := .cells #[.int .u8 a1_0, .int .u8 a1_1] 41 (0, 0)) (by (with_reducible repeat (first | refine blk_drewN ?_ _ | refine blk_drew ?_ | refine blk_alloc ?_ _)); exact BK201.out) hg (Kd.R_ne HO214.out BK201.out (by decide))); have n1_ := Aside0.mk (Kd.R_after (ok := (fun k_ => some k_ ≠ (v210 : Value).ownBlock)) (by (with_reducible repeat (first | apply Kd.R_alloc | apply Kd.R_drewN | apply Kd.R_drew)); exact Kd.R_mono HO205.out (fun _ hk => ⟨hk.1.2, hk.2⟩)) hg hat); have n2_ := Aside0.mk (Kd.R_after (ok := (fun k_ => some k_ ≠ (.slice Ao33 t203.length co33 : Value).ownBlock)) (by (with_reducible repeat (first | apply Kd.R_alloc | apply Kd.R_drewN | apply Kd.R_drew)); exact Kd.R_mono HO211.out (fun _ hk => ⟨hk.1.2, hk.2⟩)) hg hat); have n3_ := Aside0.mk (hb); have n4_ := Aside0.mk (ho); clear BK201; clear HO205; clear HO211; clear HB; clear HO214; have BK201 := n0_; have HO205 := n1_; have HO211 := n2_; have HB := n3_; have HO217 := n4_; clear n0_ n1_ n2_ n3_ n4_; clear ho hb hg hat))
           have n0_ := Aside0.mk (Kd.R_drew HO205.out)
           have n1_ := Aside0.mk (Kd.R_drew HO211.out)
           have n2_ := Aside0.mk (Kd.R_drew HO217.out)
           have n3_ := Aside0.mk (blk_drew BK201.out)
           have n4_ := Aside0.mk (below_drew1 HB.out)
           clear HO205
           clear HO211
           clear HO217
           clear BK201
           clear HB
           have HO205 := n0_
           have HO211 := n1_
           have HO217 := n2_
           have BK201 := n3_
           have HB := n4_
           clear n0_ n1_ n2_ n3_ n4_
           have p218 : 0 ≤ ((ji17) : Int) := of_decide_eq_true (by first | (with_reducible assumption) | assumption)
           have q218 : (ji17) < (t203.length : Int) := of_decide_eq_true (by first | (with_reducible assumption) | assumption)
           obtain ⟨ad218, e218, hx218_0, hx218_1⟩ := at_T24 (Kd.R_reads' HO205.out).2.2 (ji17) p218 q218
           cases e218
           replace p218 := eq_true p218
           replace q218 := eq_true q218
           have p219 : 0 ≤ ((ji20) : Int) := of_decide_eq_true (by first | (with_reducible assumption) | assumption)
           have q219 : (ji20) < (t203.length : Int) := of_decide_eq_true (by first | (with_reducible assumption) | assumption)
           obtain ⟨ad219, e219, hx219_0, hx219_1⟩ := at_T24 (Kd.R_reads' HO205.out).2.2 (ji20) p219 q219
           obtain rfl : ad218 = ad219 := (by injection e219)
           replace p219 := eq_true p219
           replace q219 := eq_true q219
           have p24 : 0 ≤ ((ji20) : Int) := of_decide_eq_true (by first | (with_reducible assumption) | assumption)
           have q24 : ((ji20) : Int) < ((y215.length : Int) : Int) := of_decide_eq_true (by first | (with_reducible assumption) | assumption)
           obtain ⟨go24, co24, eo24, gb24, gl24, cl24, HG24⟩ := Kd.R_form HO217.out (by omega)
           (first | cases eo24 | (injection eo24 with ea_ en_ ec_; (first | subst ea_ | (injection ea_ with ea_; subst ea_)); subst ec_; clear en_))
           have GB24 := Aside0.mk gb24
           have GG24 := Aside0.mk HG24
           clear gb24 gl24 HG24
           obtain ⟨ce24, hcl24, hM24, hcc24, hfr24⟩ := Kd.R_elem HO217.out z24 ((ji20) : Int) p24 q24
           obtain rfl := k24_openM hM24
           have hx24_0 : World.cell? _ ⟨go24, ((ji20) : Int).toNat * 2, none⟩ = some (.int .i64 ((rd_T24 y215 (ji20)).f0)) := hcc24 0 _ rfl
           have hx24_1 : World.cell? _ ⟨go24, ((ji20) : Int).toNat * 2 + 1, none⟩ = some (.int .i64 ((rd_T24 y215 (ji20)).f1)) := hcc24 1 _ rfl
           have hf24_0 : World.frozen? _ ⟨go24, ((ji20) : Int).toNat * 2, none⟩ = false := hfr24 0
           have hf24_1 : World.frozen? _ ⟨go24, ((ji20) : Int).toNat * 2 + 1, none⟩ = false := hfr24 1
           clear hcl24 hcc24 hfr24 hM24
           replace p24 := eq_true p24
           replace q24 := eq_true q24
           obtain ⟨ce40, hcl40, hM40, hcc40, hfr40⟩ := Kd.R_elem HO217.out z24 ((ji20) : Int) (of_decide_eq_true (by first | (with_reducible assumption) | assumption)) (by have h_ : ((ji20) : Int) < ((y215.length : Int) : Int) := of_decide_eq_true (by first | (with_reducible assumption) | assumption); first | exact h_ | (have e_ := (Kd.R_reads' HO217.out).1; omega) | simpa using h_)
           obtain rfl := k24_openM hM40
           have HP40 := (Kd.R_seg HO217.out ((ji20) : Int) (of_decide_eq_true (by first | (with_reducible assumption) | assumption)) (by have h_ : ((ji20) : Int) < ((y215.length : Int) : Int) := of_decide_eq_true (by first | (with_reducible assumption) | assumption); first | exact h_ | (have e_ := (Kd.R_reads' HO217.out).1; omega) | simpa using h_) (seg := [.int .i64 ((rd_T24 t203 (ji17)).f0), .int .i64 ((rd_T24 t203 (ji17)).f1)]) (j := 0) hcl40 hcc40 (show 2 ≤ 2 from by decide) (x' := (⟨(rd_T24 t203 (ji17)).f0, (rd_T24 t203 (ji17)).f1⟩ : S24)) (k24_mkM _ _ _ (⟨(rd_T24 t203 (ji17)).f0, (rd_T24 t203 (ji17)).f1⟩ : S24) ) (fun _ hk => hk)).1
           rw [← Ny220.out] at HP40
           have HQ40 := Aside0.mk HP40
           clear hcl40 hcc40 hfr40 hM40 HP40
           have p26 : 0 ≤ ((ji17) : Int) := of_decide_eq_true (by first | (with_reducible assumption) | assumption)
           have q26 : ((ji17) : Int) < ((y215.length : Int) : Int) := of_decide_eq_true (by first | (with_reducible assumption) | assumption)
           obtain ⟨ce26, hcl26, hM26, hcc26, hfr26⟩ := Kd.R_elem HQ40.out z24 ((ji17) : Int) p26 q26
           obtain rfl := k24_openM hM26
           have hx26_0 : World.cell? _ ⟨go24, ((ji17) : Int).toNat * 2, none⟩ = some (.int .i64 ((rd_T24 y220 (ji17)).f0)) := hcc26 0 _ rfl
           have hx26_1 : World.cell? _ ⟨go24, ((ji17) : Int).toNat * 2 + 1, none⟩ = some (.int .i64 ((rd_T24 y220 (ji17)).f1)) := hcc26 1 _ rfl
           have hf26_0 : World.frozen? _ ⟨go24, ((ji17) : Int).toNat * 2, none⟩ = false := hfr26 0
           have hf26_1 : World.frozen? _ ⟨go24, ((ji17) : Int).toNat * 2 + 1, none⟩ = false := hfr26 1
           clear hcl26 hcc26 hfr26 hM26
           replace p26 := eq_true p26
           replace q26 := eq_true q26
           obtain ⟨ce41, hcl41, hM41, hcc41, hfr41⟩ := Kd.R_elem HQ40.out z24 ((ji17) : Int) (of_decide_eq_true (by first | (with_reducible assumption) | assumption)) (by have h_ : ((ji17) : Int) < ((y215.length : Int) : Int) := of_decide_eq_true (by first | (with_reducible assumption) | assumption); first | exact h_ | (have e_ := (Kd.R_reads' HO217.out).1; omega) | simpa using h_)
           obtain rfl := k24_openM hM41
           have HP41 := (Kd.R_seg HQ40.out ((ji17) : Int) (of_decide_eq_true (by first | (with_reducible assumption) | assumption)) (by have h_ : ((ji17) : Int) < ((y215.length : Int) : Int) := of_decide_eq_true (by first | (with_reducible assumption) | assumption); first | exact h_ | (have e_ := (Kd.R_reads' HO217.out).1; omega) | simpa using h_) (seg := [.int .i64 ((rd_T24 t203 (ji20)).f0), .int .i64 ((rd_T24 t203 (ji20)).f1)]) (j := 0) hcl41 hcc41 (show 2 ≤ 2 from by decide) (x' := (⟨(rd_T24 t203 (ji20)).f0, (rd_T24 t203 (ji20)).f1⟩ : S24)) (k24_mkM _ _ _ (⟨(rd_T24 t203 (ji20)).f0, (rd_T24 t203 (ji20)).f1⟩ : S24) ) (fun _ hk => hk)).1
           rw [← Ny221.out] at HP41
           have HQ41 := Aside0.mk HP41
           clear hcl41 hcc41 hfr41 hM41 HP41
           refine start_ (n := 16) (S := fun w' => w'.cell? (ad218.add (((ji17)).toNat * 2)) = some (.int .i64 ((rd_T24 t203 (ji17)).f0)) ∧ w'.cell? ⟨(ad218.add (((ji17)).toNat * 2)).block, (ad218.add (((ji17)).toNat * 2)).off + 1, none⟩ = some (.int .i64 ((rd_T24 t203 (ji17)).f1)) ∧ w'.cell? (ad218.add (((ji20)).toNat * 2)) = some (.int .i64 ((rd_T24 t203 (ji20)).f0)) ∧ w'.cell? ⟨(ad218.add (((ji20)).toNat * 2)).block, (ad218.add (((ji20)).toNat * 2)).off + 1, none⟩ = some (.int .i64 ((rd_T24 t203 (ji20)).f1))) (ds := [13, 15]) #[false, false, false, false, false, false, false, false, false, false, false, false, false, false, false, false] (by kernel_rfl) rfl rfl ⟨hx218_0, hx218_1, hx219_0, hx219_1⟩ (fun hHeld => ?_); refine with_tabW l11_SpanOrder.tab7 l11_SpanOrder.bits7 (fun HT_ HW_ => ?_)
           generalize w38.drew = w39 at HO205 HO211 HO217 BK201 HB GG24 HQ40 HQ41 hf24_0 hf24_1 hf26_0 hf26_1 hx218_0 hx218_1 hx219_0 hx219_1 hx24_0 hx24_1 hx26_0 hx26_1 hHeld ⊢
           obtain ⟨zb26, hzb26⟩ : ∃ z, (w39.setCell ⟨go24, ((ji20) : Int).toNat * 2, none⟩ (.int .i64 ((rd_T24 t203 (ji17)).f0))).cell? ⟨go24, ((ji17) : Int).toNat * 2, none⟩ = some z := Option.isSome_iff_exists.1 (by rw [← isSome_cell?_setCell _ ⟨go24, ((ji20) : Int).toNat * 2 + 1, none⟩ _ (.int .i64 ((rd_T24 t203 (ji17)).f1))]; exact (congrArg Option.isSome hx26_0).trans rfl)
           have hzf0 : w39.frozen? ⟨go24, ((ji17) : Int).toNat * 2, none⟩ = false := (by first | exact hf26_0 | (have h_ := hf26_0; rw [World.frozen?_setCells] at h_; exact h_))
           have hzf1 : w39.frozen? ⟨go24, ((ji17) : Int).toNat * 2 + 1, none⟩ = false := (by first | exact hf26_1 | (have h_ := hf26_1; rw [World.frozen?_setCells] at h_; exact h_))
           obtain ⟨zb27, hzb27⟩ : ∃ z, ((w39.setCell ⟨go24, ((ji20) : Int).toNat * 2, none⟩ (.int .i64 ((rd_T24 t203 (ji17)).f0))).setCell ⟨go24, ((ji20) : Int).toNat * 2 + 1, none⟩ (.int .i64 ((rd_T24 t203 (ji17)).f1))).cell? ⟨go24, ((ji17) : Int).toNat * 2 + 1, none⟩ = some z := ⟨_, hx26_1⟩
           refine pure_ (i := 0) (N := some 45) (v := ?_) (a' := ?_) #[true, false, false, false, false, false, false, false, false, false, false, false, false, false, false, false] rfl rfl (any_of HT_.out (by kernel_rfl)) (fun _ _ _ h => h) (Or.inl ⟨by rfl, ?_⟩) ?_ ?_
           rotate_left
           ·intro w'
            go_simp
            with_reducible rfl
           rotate_left
           ·simp only [Act.put, List.setIfInBounds_toArray, List.set_cons_zero, List.set_cons_succ, i64_w, i32_w]
            rfl
           refine pure_ (i := 1) (N := some 46) (v := ?_) (a' := ?_) #[true, true, false, false, false, false, false, false, false, false, false, false, false, false, false, false] rfl rfl (any_of HT_.out (by kernel_rfl)) (fun _ _ _ h => h) (Or.inl ⟨by rfl, ?_⟩) ?_ ?_
           rotate_left
           ·intro w'
            go_simp
            with_reducible rfl
           rotate_left
           ·simp only [Act.put, List.setIfInBounds_toArray, List.set_cons_zero, List.set_cons_succ, i64_w, i32_w]
            rfl
           refine pure_ (i := 2) (N := some 47) (v := ?_) (a' := ?_) #[true, true, true, false, false, false, false, false, false, false, false, false, false, false, false, false] rfl rfl (any_of HT_.out (by kernel_rfl)) (fun _ _ _ h => h) (Or.inl ⟨by rfl, ?_⟩) ?_ ?_
           rotate_left
           ·intro w'
            go_simp
            with_reducible rfl
           rotate_left
           ·simp only [Act.put, List.setIfInBounds_toArray, List.set_cons_zero, List.set_cons_succ, i64_w, i32_w]
            rfl
           refine pure_ (i := 3) (N := some 48) (v := ?_) (a' := ?_) #[true, true, true, true, false, false, false, false, false, false, false, false, false, false, false, false] rfl rfl (any_of HT_.out (by kernel_rfl)) (fun _ _ _ h => h) (Or.inl ⟨by rfl, ?_⟩) ?_ ?_
           rotate_left
           ·intro w'
            go_simp
            with_reducible rfl
           rotate_left
           ·simp only [Act.put, List.setIfInBounds_toArray, List.set_cons_zero, List.set_cons_succ, i64_w, i32_w]
            rfl
           refine pure_ (i := 4) (N := some 49) (v := ?_) (a' := ?_) #[true, true, true, true, true, false, false, false, false, false, false, false, false, false, false, false] rfl rfl (any_of HT_.out (by kernel_rfl)) (fun _ _ _ h => h) (Or.inl ⟨by rfl, ?_⟩) ?_ ?_
           rotate_left
           ·intro w'
            go_simp
            with_reducible rfl
           rotate_left
           ·simp only [Act.put, List.setIfInBounds_toArray, List.set_cons_zero, List.set_cons_succ, i64_w, i32_w]
            rfl
           refine pure_ (i := 5) (N := some 50) (v := ?_) (a' := ?_) #[true, true, true, true, true, true, false, false, false, false, false, false, false, false, false, false] rfl rfl (any_of HT_.out (by kernel_rfl)) (fun _ _ _ h => h) (Or.inl ⟨by rfl, ?_⟩) ?_ ?_
           rotate_left
           ·intro w'
            go_simp
            with_reducible rfl
           rotate_left
           ·simp only [Act.put, List.setIfInBounds_toArray, List.set_cons_zero, List.set_cons_succ, i64_w, i32_w]
            rfl
           refine pure_ (i := 6) (N := some 51) (v := ?_) (a' := ?_) #[true, true, true, true, true, true, true, false, false, false, false, false, false, false, false, false] rfl rfl (any_of HT_.out (by kernel_rfl)) (fun _ _ _ h => h) (Or.inl ⟨by rfl, ?_⟩) ?_ ?_
           rotate_left
           ·intro w'
            go_simp
            with_reducible rfl
           rotate_left
           ·simp only [Act.put, List.setIfInBounds_toArray, List.set_cons_zero, List.set_cons_succ, i64_w, i32_w]
            rfl
           refine pure_ (i := 8) (N := some 53) (v := ?_) (a' := ?_) #[true, true, true, true, true, true, true, false, true, false, false, false, false, false, false, false] rfl rfl (any_of HT_.out (by kernel_rfl)) (fun _ _ _ h => h) (Or.inl ⟨by rfl, ?_⟩) ?_ ?_
           rotate_left
           ·intro w'
            go_simp
            with_reducible rfl
           rotate_left
           ·simp only [Act.put, List.setIfInBounds_toArray, List.set_cons_zero, List.set_cons_succ, i64_w, i32_w]
            rfl
           refine pure_ (i := 9) (N := some 54) (v := ?_) (a' := ?_) #[true, true, true, true, true, true, true, false, true, true, false, false, false, false, false, false] rfl rfl (any_of HT_.out (by kernel_rfl)) (fun _ _ _ h => h) (Or.inl ⟨by rfl, ?_⟩) ?_ ?_
           rotate_left
           ·intro w'
            go_simp
            with_reducible rfl
           rotate_left
           ·simp only [Act.put, List.setIfInBounds_toArray, List.set_cons_zero, List.set_cons_succ, i64_w, i32_w]
            rfl
           refine pure_ (i := 10) (N := some 55) (v := ?_) (a' := ?_) #[true, true, true, true, true, true, true, false, true, true, true, false, false, false, false, false] rfl rfl (any_of HT_.out (by kernel_rfl)) (fun _ _ _ h => h) (Or.inl ⟨by rfl, ?_⟩) ?_ ?_
           rotate_left
           ·intro w'
            go_simp
            with_reducible rfl
           rotate_left
           ·simp only [Act.put, List.setIfInBounds_toArray, List.set_cons_zero, List.set_cons_succ, i64_w, i32_w]
            rfl
           refine take_ (i := 7) (N := some 52) (v := ?_) (a' := ?_) #[true, true, true, true, true, true, true, true, true, true, true, false, false, false, false, false] rfl rfl (take_ofW HT_.out HW_.out (by kernel_rfl)) (fun _ _ _ h => h) (Or.inl ⟨by rfl, ?_⟩) hHeld ?_ ?_
           rotate_left
           ·rintro w' ⟨s0, s1, s2, s3⟩
            go_simp
            with_reducible rfl
           rotate_left
           ·simp only [Act.put, List.setIfInBounds_toArray, List.set_cons_zero, List.set_cons_succ, i64_w, i32_w]
            rfl
           refine take_ (i := 11) (N := some 56) (v := ?_) (a' := ?_) #[true, true, true, true, true, true, true, true, true, true, true, true, false, false, false, false] rfl rfl (take_ofW HT_.out HW_.out (by kernel_rfl)) (fun _ _ _ h => h) (Or.inl ⟨by rfl, ?_⟩) hHeld ?_ ?_
           rotate_left
           ·rintro w' ⟨s0, s1, s2, s3⟩
            go_simp
            with_reducible rfl
           rotate_left
           ·simp only [Act.put, List.setIfInBounds_toArray, List.set_cons_zero, List.set_cons_succ, i64_w, i32_w]
            rfl
           refine pure_ (i := 12) (N := some 57) (v := ?_) (a' := ?_) #[true, true, true, true, true, true, true, true, true, true, true, true, true, false, false, false] rfl rfl (any_of HT_.out (by kernel_rfl)) (fun _ _ _ h => h) (Or.inl ⟨by rfl, ?_⟩) ?_ ?_
           rotate_left
           ·intro w'
            go_simp
            with_reducible rfl
           rotate_left
           ·simp only [Act.put, List.setIfInBounds_toArray, List.set_cons_zero, List.set_cons_succ, i64_w, i32_w]
            rfl
           refine last_ (i := 13) (N := none) #[true, true, true, true, true, true, true, true, true, true, true, true, true, true, false, false] rfl rfl (one_of HT_.out (by kernel_rfl)) (by decide) (fun K hK => ?_)
           refine skip_ (w1 := ?_) (by rfl) rfl ?_ ?_
           rotate_left
           ·go_simp
            rfl
           refine hK.out _ _ ?_
           clear hK K
           refine pure_ (i := 14) (N := some 58) (v := ?_) (a' := ?_) #[true, true, true, true, true, true, true, true, true, true, true, true, true, true, true, false] rfl rfl (any_of HT_.out (by kernel_rfl)) (fun _ _ _ h => h) (Or.inl ⟨by rfl, ?_⟩) ?_ ?_
           rotate_left
           ·intro w'
            go_simp
            with_reducible rfl
           rotate_left
           ·simp only [Act.put, List.setIfInBounds_toArray, List.set_cons_zero, List.set_cons_succ, i64_w, i32_w]
            rfl
           refine last_ (i := 15) (N := none) #[true, true, true, true, true, true, true, true, true, true, true, true, true, true, true, true] rfl rfl (one_of HT_.out (by kernel_rfl)) (by decide) (fun K hK => ?_)
           refine skip_ (w1 := ?_) (by rfl) rfl ?_ ?_
           rotate_left
           ·go_simp
            rfl
           refine hK.out _ _ ?_
           clear hK K
           refine done_ (done_of HT_.out (by kernel_rfl)) ?_
           try go_wp2
           have n0_ : Aside0 (Kd.R k24 24 ((((w39.setCell ⟨go24, ((ji20) : Int).toNat * 2, none⟩ (.int .i64 ((rd_T24 t203 (ji17)).f0))).setCell ⟨go24, ((ji20) : Int).toNat * 2 + 1, none⟩ (.int .i64 ((rd_T24 t203 (ji17)).f1))).setCell ⟨go24, ((ji17) : Int).toNat * 2, none⟩ (.int .i64 ((rd_T24 t203 (ji20)).f0))).setCell ⟨go24, ((ji17) : Int).toNat * 2 + 1, none⟩ (.int .i64 ((rd_T24 t203 (ji20)).f1))) w.heap.size (fun k_ => some k_ ≠ (v210 : Value).ownBlock ∧ some k_ ≠ (.slice (some ⟨go24, 0, none⟩) y215.length co24 : Value).ownBlock) (.slice (some ad218) t203.length co33) t203) := ⟨by (with_reducible repeat (first | apply Kd.R_alloc | apply Kd.R_drewN | apply Kd.R_drew)); exact Kd.R_mono (Kd.R_far (p := ⟨go24, ((ji17) : Int).toNat * 2 + 1, none⟩) (Kd.R_far (p := ⟨go24, ((ji17) : Int).toNat * 2, none⟩) (Kd.R_far (p := ⟨go24, ((ji20) : Int).toNat * 2 + 1, none⟩) (Kd.R_far (p := ⟨go24, ((ji20) : Int).toNat * 2, none⟩) (Kd.R_mono HO205.out (fun k_ hk => (⟨hk, fun e_ => hk.2 (by rw [e_]; rfl)⟩ : _ ∧ k_ ≠ go24))) (fun _ hk => hk.2) (.int .i64 ((rd_T24 t203 (ji17)).f0))) (fun _ hk => hk.2) (.int .i64 ((rd_T24 t203 (ji17)).f1))) (fun _ hk => hk.2) (.int .i64 ((rd_T24 t203 (ji20)).f0))) (fun _ hk => hk.2) (.int .i64 ((rd_T24 t203 (ji20)).f1))) (fun _ hk => ⟨hk.1.1, hk.1.2⟩)⟩
           have n1_ : Aside0 (Kd.R k24 24 ((((w39.setCell ⟨go24, ((ji20) : Int).toNat * 2, none⟩ (.int .i64 ((rd_T24 t203 (ji17)).f0))).setCell ⟨go24, ((ji20) : Int).toNat * 2 + 1, none⟩ (.int .i64 ((rd_T24 t203 (ji17)).f1))).setCell ⟨go24, ((ji17) : Int).toNat * 2, none⟩ (.int .i64 ((rd_T24 t203 (ji20)).f0))).setCell ⟨go24, ((ji17) : Int).toNat * 2 + 1, none⟩ (.int .i64 ((rd_T24 t203 (ji20)).f1))) w.heap.size (fun k_ => some k_ ≠ (.slice (some ad218) t203.length co33 : Value).ownBlock ∧ some k_ ≠ (.slice (some ⟨go24, 0, none⟩) y215.length co24 : Value).ownBlock) v210 t209) := ⟨by (with_reducible repeat (first | apply Kd.R_alloc | apply Kd.R_drewN | apply Kd.R_drew)); exact Kd.R_mono (Kd.R_far (p := ⟨go24, ((ji17) : Int).toNat * 2 + 1, none⟩) (Kd.R_far (p := ⟨go24, ((ji17) : Int).toNat * 2, none⟩) (Kd.R_far (p := ⟨go24, ((ji20) : Int).toNat * 2 + 1, none⟩) (Kd.R_far (p := ⟨go24, ((ji20) : Int).toNat * 2, none⟩) (Kd.R_mono HO211.out (fun k_ hk => (⟨hk, fun e_ => hk.2 (by rw [e_]; rfl)⟩ : _ ∧ k_ ≠ go24))) (fun _ hk => hk.2) (.int .i64 ((rd_T24 t203 (ji17)).f0))) (fun _ hk => hk.2) (.int .i64 ((rd_T24 t203 (ji17)).f1))) (fun _ hk => hk.2) (.int .i64 ((rd_T24 t203 (ji20)).f0))) (fun _ hk => hk.2) (.int .i64 ((rd_T24 t203 (ji20)).f1))) (fun _ hk => ⟨hk.1.1, hk.1.2⟩)⟩
           have n2_ : Aside0 (Kd.R k24 24 ((((w39.setCell ⟨go24, ((ji20) : Int).toNat * 2, none⟩ (.int .i64 ((rd_T24 t203 (ji17)).f0))).setCell ⟨go24, ((ji20) : Int).toNat * 2 + 1, none⟩ (.int .i64 ((rd_T24 t203 (ji17)).f1))).setCell ⟨go24, ((ji17) : Int).toNat * 2, none⟩ (.int .i64 ((rd_T24 t203 (ji20)).f0))).setCell ⟨go24, ((ji17) : Int).toNat * 2 + 1, none⟩ (.int .i64 ((rd_T24 t203 (ji20)).f1))) w.heap.size (fun k_ => some k_ ≠ (.slice (some ad218) t203.length co33 : Value).ownBlock ∧ some k_ ≠ (v210 : Value).ownBlock) (.slice (some ⟨go24, 0, none⟩) y215.length co24) y221) := ⟨by (with_reducible repeat (first | apply Kd.R_alloc | apply Kd.R_drewN | apply Kd.R_drew)); exact HQ41.out⟩
           have n3_ : Aside0 (((((w39.setCell ⟨go24, ((ji20) : Int).toNat * 2, none⟩ (.int .i64 ((rd_T24 t203 (ji17)).f0))).setCell ⟨go24, ((ji20) : Int).toNat * 2 + 1, none⟩ (.int .i64 ((rd_T24 t203 (ji17)).f1))).setCell ⟨go24, ((ji17) : Int).toNat * 2, none⟩ (.int .i64 ((rd_T24 t203 (ji20)).f0))).setCell ⟨go24, ((ji17) : Int).toNat * 2 + 1, none⟩ (.int .i64 ((rd_T24 t203 (ji20)).f1))).heap[gb201]? = some (.cells #[.int .u8 a1_0, .int .u8 a1_1] 41 (0, 0))) := ⟨by (with_reducible repeat (first | refine blk_drewN ?_ _ | refine blk_drew ?_ | refine blk_alloc ?_ _)); refine blk_far ?_ (by have h_ := Kd.R_ne HO217.out BK201.out (by decide); intro e_; exact h_ (by rw [e_]; rfl)) _; (with_reducible repeat (first | refine blk_drewN ?_ _ | refine blk_drew ?_ | refine blk_alloc ?_ _)); refine blk_far ?_ (by have h_ := Kd.R_ne HO217.out BK201.out (by decide); intro e_; exact h_ (by rw [e_]; rfl)) _; (with_reducible repeat (first | refine blk_drewN ?_ _ | refine blk_drew ?_ | refine blk_alloc ?_ _)); refine blk_far ?_ (by have h_ := Kd.R_ne HO217.out BK201.out (by decide); intro e_; exact h_ (by rw [e_]; rfl)) _; (with_reducible repeat (first | refine blk_drewN ?_ _ | refine blk_drew ?_ | refine blk_alloc ?_ _)); refine blk_far ?_ (by have h_ := Kd.R_ne HO217.out BK201.out (by decide); intro e_; exact h_ (by rw [e_]; rfl)) _; (with_reducible repeat (first | refine blk_drewN ?_ _ | refine blk_drew ?_ | refine blk_alloc ?_ _)); exact BK201.out⟩
           have n4_ : Aside0 (Below w.heap.size w ((((w39.setCell ⟨go24, ((ji20) : Int).toNat * 2, none⟩ (.int .i64 ((rd_T24 t203 (ji17)).f0))).setCell ⟨go24, ((ji20) : Int).toNat * 2 + 1, none⟩ (.int .i64 ((rd_T24 t203 (ji17)).f1))).setCell ⟨go24, ((ji17) : Int).toNat * 2, none⟩ (.int .i64 ((rd_T24 t203 (ji20)).f0))).setCell ⟨go24, ((ji17) : Int).toNat * 2 + 1, none⟩ (.int .i64 ((rd_T24 t203 (ji20)).f1)))) := ⟨by repeat (first | (with_reducible first | exact HB.out | apply below_alloc | apply pw_below_drewN | apply below_drew1 | refine below_set ?_ GB24.out | refine below_set ?_ GB24.out | refine below_set ?_ GB24.out | refine below_set ?_ GB24.out | refine below_set ?_ GE201.out) | exact HB.out)⟩
           (try clear HO205)
           (try clear HO211)
           (try clear HO217)
           (try clear BK201)
           (try clear HB)
           generalize ((((w39.setCell ⟨go24, ((ji20) : Int).toNat * 2, none⟩ (.int .i64 ((rd_T24 t203 (ji17)).f0))).setCell ⟨go24, ((ji20) : Int).toNat * 2 + 1, none⟩ (.int .i64 ((rd_T24 t203 (ji17)).f1))).setCell ⟨go24, ((ji17) : Int).toNat * 2, none⟩ (.int .i64 ((rd_T24 t203 (ji20)).f0))).setCell ⟨go24, ((ji17) : Int).toNat * 2 + 1, none⟩ (.int .i64 ((rd_T24 t203 (ji20)).f1))) = w42 at n0_ n1_ n2_ n3_ n4_ ⊢
           have HO205 := n0_
           have HO211 := n1_
           have HO217 := n2_
           have BK201 := n3_
           have HB := n4_
           clear n0_ n1_ n2_ n3_ n4_
           have n0_ := Aside0.mk (Kd.R_drew HO205.out)
           have n1_ := Aside0.mk (Kd.R_drew HO211.out)
           have n2_ := Aside0.mk (Kd.R_drew HO217.out)
           have n3_ := Aside0.mk (blk_drew BK201.out)
           have n4_ := Aside0.mk (below_drew1 HB.out)
           clear HO205
           clear HO211
           clear HO217
           clear BK201
           clear HB
           have HO205 := n0_
           have HO211 := n1_
           have HO217 := n2_
           have BK201 := n3_
           have HB := n4_
           clear n0_ n1_ n2_ n3_ n4_
           have p228 : 0 ≤ ((ji20) : Int) := of_decide_eq_true (by first | (with_reducible assumption) | assumption)
           have q228 : (ji20) < (t203.length : Int) := of_decide_eq_true (by first | (with_reducible assumption) | assumption)
           obtain ⟨ad228, e228, hx228_0, hx228_1⟩ := at_T24 (Kd.R_reads' HO205.out).2.2 (ji20) p228 q228
           obtain rfl : ad218 = ad228 := (by injection e228)
           replace p228 := eq_true p228
           replace q228 := eq_true q228
           refine start_ (n := 10) (S := fun w' => w'.cell? (ad218.add (((ji20)).toNat * 2)) = some (.int .i64 ((rd_T24 t203 (ji20)).f0)) ∧ w'.cell? ⟨(ad218.add (((ji20)).toNat * 2)).block, (ad218.add (((ji20)).toNat * 2)).off + 1, none⟩ = some (.int .i64 ((rd_T24 t203 (ji20)).f1))) (ds := []) #[false, false, false, false, false, false, false, false, false, false] (by kernel_rfl) rfl rfl ⟨hx228_0, hx228_1⟩ (fun hHeld => ?_); refine with_tabW l11_SpanOrder.tab8 l11_SpanOrder.bits8 (fun HT_ HW_ => ?_)
           generalize w42.drew = w43 at HO205 HO211 HO217 BK201 HB HQ41 hx228_0 hx228_1 hHeld ⊢
           refine pure_ (i := 1) (N := some 60) (v := ?_) (a' := ?_) #[false, true, false, false, false, false, false, false, false, false] rfl rfl (any_of HT_.out (by kernel_rfl)) (fun _ _ _ h => h) (Or.inl ⟨by rfl, ?_⟩) ?_ ?_
           rotate_left
           ·intro w'
            go_simp
            with_reducible rfl
           rotate_left
           ·simp only [Act.put, List.setIfInBounds_toArray, List.set_cons_zero, List.set_cons_succ, i64_w, i32_w]
            rfl
           refine pure_ (i := 3) (N := some 62) (v := ?_) (a' := ?_) #[false, true, false, true, false, false, false, false, false, false] rfl rfl (any_of HT_.out (by kernel_rfl)) (fun _ _ _ h => h) (Or.inl ⟨by rfl, ?_⟩) ?_ ?_
           rotate_left
           ·intro w'
            go_simp
            with_reducible rfl
           rotate_left
           ·simp only [Act.put, List.setIfInBounds_toArray, List.set_cons_zero, List.set_cons_succ, i64_w, i32_w]
            rfl
           refine pure_ (i := 4) (N := some 63) (v := ?_) (a' := ?_) #[false, true, false, true, true, false, false, false, false, false] rfl rfl (any_of HT_.out (by kernel_rfl)) (fun _ _ _ h => h) (Or.inl ⟨by rfl, ?_⟩) ?_ ?_
           rotate_left
           ·intro w'
            go_simp
            with_reducible rfl
           rotate_left
           ·simp only [Act.put, List.setIfInBounds_toArray, List.set_cons_zero, List.set_cons_succ, i64_w, i32_w]
            rfl
           refine pure_ (i := 5) (N := some 64) (v := ?_) (a' := ?_) #[false, true, false, true, true, true, false, false, false, false] rfl rfl (any_of HT_.out (by kernel_rfl)) (fun _ _ _ h => h) (Or.inl ⟨by rfl, ?_⟩) ?_ ?_
           rotate_left
           ·intro w'
            go_simp
            with_reducible rfl
           rotate_left
           ·simp only [Act.put, List.setIfInBounds_toArray, List.set_cons_zero, List.set_cons_succ, i64_w, i32_w]
            rfl
           refine take_ (i := 6) (N := some 65) (v := ?_) (a' := ?_) #[false, true, false, true, true, true, true, false, false, false] rfl rfl (take_ofW HT_.out HW_.out (by kernel_rfl)) (fun _ _ _ h => h) (Or.inl ⟨by rfl, ?_⟩) hHeld ?_ ?_
           rotate_left
           ·rintro w' ⟨s0, s1⟩
            go_simp
            with_reducible rfl
           rotate_left
           ·simp only [Act.put, List.setIfInBounds_toArray, List.set_cons_zero, List.set_cons_succ, i64_w, i32_w]
            rfl
           refine join_ (σ := Value × Value × Value) 2 #[true, true, true, true, true, true, true, true, false, false] (fun s_ => [(59, s_.1), (61, s_.2.1), (66, s_.2.2)]) (fun s_ w' => (w'.cell? (ad218.add (((ji20)).toNat * 2)) = some (.int .i64 ((rd_T24 t203 (ji20)).f0)) ∧ w'.cell? ⟨(ad218.add (((ji20)).toNat * 2)).block, (ad218.add (((ji20)).toNat * 2)).off + 1, none⟩ = some (.int .i64 ((rd_T24 t203 (ji20)).f1))) ∧ (Kd.R k24 24 w' w.heap.size (fun k_ => some k_ ≠ (v210 : Value).ownBlock ∧ some k_ ≠ (.slice (some ⟨go24, 0, none⟩) y215.length co24 : Value).ownBlock ∧ some k_ ≠ (s_.2.1 : Value).ownBlock ∧ some k_ ≠ (s_.2.2 : Value).ownBlock) (.slice (some ad218) t203.length co33) t203) ∧ (Kd.R k24 24 w' w.heap.size (fun k_ => some k_ ≠ (.slice (some ad218) t203.length co33 : Value).ownBlock ∧ some k_ ≠ (.slice (some ⟨go24, 0, none⟩) y215.length co24 : Value).ownBlock ∧ some k_ ≠ (s_.2.1 : Value).ownBlock ∧ some k_ ≠ (s_.2.2 : Value).ownBlock) v210 t209) ∧ (Kd.R k24 24 w' w.heap.size (fun k_ => some k_ ≠ (.slice (some ad218) t203.length co33 : Value).ownBlock ∧ some k_ ≠ (v210 : Value).ownBlock ∧ some k_ ≠ (s_.2.1 : Value).ownBlock ∧ some k_ ≠ (s_.2.2 : Value).ownBlock) (.slice (some ⟨go24, 0, none⟩) y215.length co24) y221) ∧ (Kd.R k24 24 w' w.heap.size (fun k_ => some k_ ≠ (.slice (some ad218) t203.length co33 : Value).ownBlock ∧ some k_ ≠ (v210 : Value).ownBlock ∧ some k_ ≠ (.slice (some ⟨go24, 0, none⟩) y215.length co24 : Value).ownBlock ∧ some k_ ≠ (s_.2.2 : Value).ownBlock) s_.2.1 y225) ∧ (Kd.R k24 24 w' w.heap.size (fun k_ => some k_ ≠ (.slice (some ad218) t203.length co33 : Value).ownBlock ∧ some k_ ≠ (v210 : Value).ownBlock ∧ some k_ ≠ (.slice (some ⟨go24, 0, none⟩) y215.length co24 : Value).ownBlock ∧ some k_ ≠ (s_.2.1 : Value).ownBlock) s_.2.2 y229) ∧ (w'.heap[gb201]? = some (.cells #[.int .u8 a1_0, .int .u8 a1_1] 41 (0, 0))) ∧ (Below w.heap.size w w')) ?_ ?_
           rotate_left
           ·intro hCont
            refine two_ (i := 0) (j := 7) (Ni := some 59) (Nj := some 66) #[true, true, false, true, true, true, true, false, false, false] #[false, true, false, true, true, true, true, true, false, false] rfl rfl rfl rfl (two_of HT_.out (by kernel_rfl)) (by decide) (by decide) (fun K hK => ?_) (fun K hK => ?_)
            ·skip
             refine Kd.R_lit_step k24 _ 24 ?hg (N := 59) ?hd (xs := ([] : List (S24))) (inner := []) (ok := fun _ => True) (okp := fun _ => True) ?hr ?hp (fun _ hk => hk) trivial (Below.refl _ _) (Nat.le_refl _) (by simp) ?_; (case hd => rfl); (case hg => rfl); (case hr => first | (go_simp; done) | (go_simp; rfl)); (case hp => exact (Reps.none _ _))
             intro v223 w44 ho45 hb hg_ hnew_
             have HS0_ := (hb.cell (World.block_lt_of_cell? _ _ (hHeld.1))).trans (hHeld.1)
             have HS1_ := (hb.cell (World.block_lt_of_cell? _ _ (hHeld.2))).trans (hHeld.2)
             clear hg_ hnew_
             (first | rw [← Ny222.out] at ho45 | (simp only [Int.reduceToNat] at ho45; rw [← Ny222.out] at ho45))
             have n0_ := Aside0.mk (Kd.R_elder' (by (with_reducible repeat (first | apply Kd.R_alloc | apply Kd.R_drewN | apply Kd.R_drew)); exact HO205.out) (Kd.R_base ho45) hb)
             have n1_ := Aside0.mk (Kd.R_elder' (by (with_reducible repeat (first | apply Kd.R_alloc | apply Kd.R_drewN | apply Kd.R_drew)); exact HO211.out) (Kd.R_base ho45) hb)
             have n2_ := Aside0.mk (Kd.R_elder' (by (with_reducible repeat (first | apply Kd.R_alloc | apply Kd.R_drewN | apply Kd.R_drew)); exact HO217.out) (Kd.R_base ho45) hb)
             have n3_ := Aside0.mk (Kd.R_lower (Kd.R_new' (Kd.R_new' (Kd.R_new' ho45 (Kd.R_lt (by (with_reducible repeat (first | apply Kd.R_alloc | apply Kd.R_drewN | apply Kd.R_drew)); exact HO205.out))) (Kd.R_lt (by (with_reducible repeat (first | apply Kd.R_alloc | apply Kd.R_drewN | apply Kd.R_drew)); exact HO211.out))) (Kd.R_lt (by (with_reducible repeat (first | apply Kd.R_alloc | apply Kd.R_drewN | apply Kd.R_drew)); exact HO217.out))) (below_size (by repeat (first | (with_reducible first | exact HB.out | apply below_alloc | apply pw_below_drewN | apply below_drew1 | refine below_set ?_ GE201.out) | exact HB.out))))
             have n4_ := Aside0.mk (blk_below (g := gb201) (o := .cells #[.int .u8 a1_0, .int .u8 a1_1] 41 (0, 0)) (by (with_reducible repeat (first | refine blk_drewN ?_ _ | refine blk_drew ?_ | refine blk_alloc ?_ _)); exact BK201.out) hb)
             have n5_ := Aside0.mk (below_step (by repeat (first | (with_reducible first | exact HB.out | apply below_alloc | apply pw_below_drewN | apply below_drew1 | refine below_set ?_ GE201.out) | exact HB.out)) hb)
             clear HO205
             clear HO211
             clear HO217
             clear BK201
             clear HB
             have HO205 := n0_
             have HO211 := n1_
             have HO217 := n2_
             have HO224 := n3_
             have BK201 := n4_
             have HB := n5_
             clear n0_ n1_ n2_ n3_ n4_ n5_
             clear hb ho45
             refine hK.out _ _ ⟨HS0_, HS1_⟩ (fun hHeld => ?_)
             clear hK K
             refine norm_ (a' := ?_) ?_ ?_
             rotate_left
             ·show Act.put _ (some 59) _ = _
              simp only [Act.put, List.setIfInBounds_toArray, List.set_cons_zero, List.set_cons_succ, i64_w, i32_w]
              rfl
             refine two_ (i := 2) (j := 7) (Ni := some 61) (Nj := some 66) #[true, true, true, true, true, true, true, false, false, false] #[true, true, false, true, true, true, true, true, false, false] rfl rfl rfl rfl (two_of HT_.out (by kernel_rfl)) (by decide) (by decide) (fun K hK => ?_) (fun K hK => ?_)
             ·skip
              refine Kd.R_append_rows_step k24 (w0 := w) w.heap.size (by rfl) (.tmp 59) (.tmp 60) 22 24 (.agg #[(.int .i64 0), (.int .i64 0)]) 16 rfl Try.underlying22 info24 rfl (by decide) (by omega) v223 y222 t203 _ _ _ (fun k_ => some k_ ≠ (.slice (some ad218) t203.length co33 : Value).ownBlock ∧ some k_ ≠ (v210 : Value).ownBlock ∧ some k_ ≠ (.slice (some ⟨go24, 0, none⟩) y215.length co24 : Value).ownBlock) (fun _ => False) rfl rfl ?aO ?aR (fun _ _ h => h) (fun _ h => h.elim) ?aF ?aB ?aS ?aL ?_
              (case aR => repeat (first | exact (Kd.R_reads' HO205.out).2.2 | (with_reducible refine Kd.C_alloc ?_ _) | (with_reducible refine Kd.C_drewN ?_ _) | (with_reducible refine Kd.C_drew ?_)))
              (case aB => exact (by repeat (first | (with_reducible first | exact HB.out | apply below_alloc | apply pw_below_drewN | apply below_drew1 | refine below_set ?_ GE201.out) | exact HB.out)))
              (case aF => exact (fun k_ hk => ⟨Kd.fresh' (Kd.R_lt (by (with_reducible repeat (first | apply Kd.R_alloc | apply Kd.R_drewN | apply Kd.R_drew)); exact HO205.out)) k_ hk, Kd.fresh' (Kd.R_lt (by (with_reducible repeat (first | apply Kd.R_alloc | apply Kd.R_drewN | apply Kd.R_drew)); exact HO211.out)) k_ hk, Kd.fresh' (Kd.R_lt (by (with_reducible repeat (first | apply Kd.R_alloc | apply Kd.R_drewN | apply Kd.R_drew)); exact HO217.out)) k_ hk⟩))
              (case aO => exact (by (with_reducible repeat (first | apply Kd.R_alloc | apply Kd.R_drewN | apply Kd.R_drew)); exact Kd.R_mono HO224.out (fun _ hk => ⟨hk.1.1.2, ⟨hk.1.2, hk.2⟩⟩)))
              (case aS => exact (below_size (by repeat (first | (with_reducible first | exact HB.out | apply below_alloc | apply pw_below_drewN | apply below_drew1 | refine below_set ?_ GE201.out) | exact HB.out))))
              (case aL => have := LMc27.out; omega)
              intro v226 w46 ho hb hg hat
              have HS0_ := Go.Proofs.YtebggajdojdebaaW.PrintWords.cell_grown hg (hHeld.1) (by first | (rw [add_block]; exact (fun e_ => by have h_ := HO224.out.1 _ e_.symm; first | exact h_.1 rfl | exact h_.2 rfl | exact h_.1.2 rfl | exact h_.1.1.2 rfl | exact h_.1.1.1.2 rfl | exact h_.1.1.1.1.2 rfl)) | (show some (Addr.add _ _).block ≠ _; rw [add_block]; exact (fun e_ => by have h_ := HO224.out.1 _ e_.symm; first | exact h_.1 rfl | exact h_.2 rfl | exact h_.1.2 rfl | exact h_.1.1.2 rfl | exact h_.1.1.1.2 rfl | exact h_.1.1.1.1.2 rfl)) | exact (fun e_ => by have h_ := HO224.out.1 _ e_.symm; first | exact h_.1 rfl | exact h_.2 rfl | exact h_.1.2 rfl | exact h_.1.1.2 rfl | exact h_.1.1.1.2 rfl | exact h_.1.1.1.1.2 rfl))
              have HS1_ := Go.Proofs.YtebggajdojdebaaW.PrintWords.cell_grown hg (hHeld.2) (by first | (rw [add_block]; exact (fun e_ => by have h_ := HO224.out.1 _ e_.symm; first | exact h_.1 rfl | exact h_.2 rfl | exact h_.1.2 rfl | exact h_.1.1.2 rfl | exact h_.1.1.1.2 rfl | exact h_.1.1.1.1.2 rfl)) | (show some (Addr.add _ _).block ≠ _; rw [add_block]; exact (fun e_ => by have h_ := HO224.out.1 _ e_.symm; first | exact h_.1 rfl | exact h_.2 rfl | exact h_.1.2 rfl | exact h_.1.1.2 rfl | exact h_.1.1.1.2 rfl | exact h_.1.1.1.1.2 rfl)) | exact (fun e_ => by have h_ := HO224.out.1 _ e_.symm; first | exact h_.1 rfl | exact h_.2 rfl | exact h_.1.2 rfl | exact h_.1.1.2 rfl | exact h_.1.1.1.2 rfl | exact h_.1.1.1.1.2 rfl))
              rw [← Ny225.out] at ho
              have n0_ := Aside0.mk (blk_grown (g := gb201) (o := .cells #[.int .u8 a1_0, .int .u8 a1_1] 41 (0, 0)) (by (with_reducible repeat (first | refine blk_drewN ?_ _ | refine blk_drew ?_ | refine blk_alloc ?_ _)); exact BK201.out) hg (Kd.R_ne HO224.out BK201.out (by decide)))
              have n1_ := Aside0.mk (Kd.R_after (ok := (fun k_ => some k_ ≠ (v210 : Value).ownBlock ∧ some k_ ≠ (.slice (some ⟨go24, 0, none⟩) y215.length co24 : Value).ownBlock)) (by (with_reducible repeat (first | apply Kd.R_alloc | apply Kd.R_drewN | apply Kd.R_drew)); exact HO205.out) hg hat)
              have n2_ := Aside0.mk (Kd.R_after (ok := (fun k_ => some k_ ≠ (.slice (some ad218) t203.length co33 : Value).ownBlock ∧ some k_ ≠ (.slice (some ⟨go24, 0, none⟩) y215.length co24 : Value).ownBlock)) (by (with_reducible repeat (first | apply Kd.R_alloc | apply Kd.R_drewN | apply Kd.R_drew)); exact HO211.out) hg hat)
              have n3_ := Aside0.mk (Kd.R_after (ok := (fun k_ => some k_ ≠ (.slice (some ad218) t203.length co33 : Value).ownBlock ∧ some k_ ≠ (v210 : Value).ownBlock)) (by (with_reducible repeat (first | apply Kd.R_alloc | apply Kd.R_drewN | apply Kd.R_drew)); exact HO217.out) hg hat)
              have n4_ := Aside0.mk (hb)
              have n5_ := Aside0.mk (ho)
              clear BK201
              clear HO205
              clear HO211
              clear HO217
              clear HB
              clear HO224
              have BK201 := n0_
              have HO205 := n1_
              have HO211 := n2_
              have HO217 := n3_
              have HB := n4_
              have HO227 := n5_
              clear n0_ n1_ n2_ n3_ n4_ n5_
              clear ho hb hg hat
              refine hK.out _ _ ⟨HS0_, HS1_⟩ (fun hHeld => ?_)
              clear hK K
              refine norm_ (a' := ?_) ?_ ?_
              rotate_left
              ·show Act.put _ (some 61) _ = _
               simp only [Act.put, List.setIfInBounds_toArray, List.set_cons_zero, List.set_cons_succ, i64_w, i32_w]
               rfl
              refine one_ (i := 7) (N := some 66) #[true, true, true, true, true, true, true, true, false, false] rfl rfl (one_of HT_.out (by kernel_rfl)) (by decide) (fun K hK => ?_)
              refine Kd.R_lit_step k24 _ 24 ?hg (N := 66) ?hd (xs := ([(⟨(rd_T24 t203 (ji20)).f0, (rd_T24 t203 (ji20)).f1⟩ : S24)] : List (S24))) (inner := [.int .i64 ((rd_T24 t203 (ji20)).f0), .int .i64 ((rd_T24 t203 (ji20)).f1)]) (ok := fun _ => True) (okp := fun _ => True) ?hr ?hp (fun _ hk => hk) trivial (Below.refl _ _) (Nat.le_refl _) (by simp) ?_; (case hd => rfl); (case hg => rfl); (case hr => first | (go_simp; done) | (go_simp; rfl)); (case hp => exact (Reps.c2 (show Kd.M k24 _ _ _ (⟨(rd_T24 t203 (ji20)).f0, (rd_T24 t203 (ji20)).f1⟩ : S24) [.int .i64 ((rd_T24 t203 (ji20)).f0), .int .i64 ((rd_T24 t203 (ji20)).f1)] from (k24_mkM _ _ _ (⟨(rd_T24 t203 (ji20)).f0, (rd_T24 t203 (ji20)).f1⟩ : S24) )) (Reps.none _ _)))
              intro v230 w47 ho48 hb hg_ hnew_
              have HS0_ := (hb.cell (World.block_lt_of_cell? _ _ (hHeld.1))).trans (hHeld.1)
              have HS1_ := (hb.cell (World.block_lt_of_cell? _ _ (hHeld.2))).trans (hHeld.2)
              clear hg_ hnew_
              (first | rw [← Ny229.out] at ho48 | (simp only [Int.reduceToNat] at ho48; rw [← Ny229.out] at ho48))
              have n0_ := Aside0.mk (Kd.R_elder' (by (with_reducible repeat (first | apply Kd.R_alloc | apply Kd.R_drewN | apply Kd.R_drew)); exact HO205.out) (Kd.R_base ho48) hb)
              have n1_ := Aside0.mk (Kd.R_elder' (by (with_reducible repeat (first | apply Kd.R_alloc | apply Kd.R_drewN | apply Kd.R_drew)); exact HO211.out) (Kd.R_base ho48) hb)
              have n2_ := Aside0.mk (Kd.R_elder' (by (with_reducible repeat (first | apply Kd.R_alloc | apply Kd.R_drewN | apply Kd.R_drew)); exact HO217.out) (Kd.R_base ho48) hb)
              have n3_ := Aside0.mk (Kd.R_elder' (by (with_reducible repeat (first | apply Kd.R_alloc | apply Kd.R_drewN | apply Kd.R_drew)); exact HO227.out) (Kd.R_base ho48) hb)
              have n4_ := Aside0.mk (Kd.R_lower (Kd.R_new' (Kd.R_new' (Kd.R_new' (Kd.R_new' ho48 (Kd.R_lt (by (with_reducible repeat (first | apply Kd.R_alloc | apply Kd.R_drewN | apply Kd.R_drew)); exact HO205.out))) (Kd.R_lt (by (with_reducible repeat (first | apply Kd.R_alloc | apply Kd.R_drewN | apply Kd.R_drew)); exact HO211.out))) (Kd.R_lt (by (with_reducible repeat (first | apply Kd.R_alloc | apply Kd.R_drewN | apply Kd.R_drew)); exact HO217.out))) (Kd.R_lt (by (with_reducible repeat (first | apply Kd.R_alloc | apply Kd.R_drewN | apply Kd.R_drew)); exact HO227.out))) (below_size (by repeat (first | (with_reducible first | exact HB.out | apply below_alloc | apply pw_below_drewN | apply below_drew1 | refine below_set ?_ GE201.out) | exact HB.out))))
              have n5_ := Aside0.mk (blk_below (g := gb201) (o := .cells #[.int .u8 a1_0, .int .u8 a1_1] 41 (0, 0)) (by (with_reducible repeat (first | refine blk_drewN ?_ _ | refine blk_drew ?_ | refine blk_alloc ?_ _)); exact BK201.out) hb)
              have n6_ := Aside0.mk (below_step (by repeat (first | (with_reducible first | exact HB.out | apply below_alloc | apply pw_below_drewN | apply below_drew1 | refine below_set ?_ GE201.out) | exact HB.out)) hb)
              clear HO205
              clear HO211
              clear HO217
              clear HO227
              clear BK201
              clear HB
              have HO205 := n0_
              have HO211 := n1_
              have HO217 := n2_
              have HO227 := n3_
              have HO231 := n4_
              have BK201 := n5_
              have HB := n6_
              clear n0_ n1_ n2_ n3_ n4_ n5_ n6_
              clear hb ho48
              refine hK.out _ _ ⟨HS0_, HS1_⟩ (fun hHeld => ?_)
              clear hK K
              refine norm_ (a' := ?_) ?_ ?_
              rotate_left
              ·show Act.put _ (some 66) _ = _
               simp only [Act.put, List.setIfInBounds_toArray, List.set_cons_zero, List.set_cons_succ, i64_w, i32_w]
               rfl
              exact norm_ (by simp only [putAll, Act.put, List.setIfInBounds_toArray, List.set_cons_zero, List.set_cons_succ]) (hCont (v223, v226, v230) _ ⟨hHeld, (by (with_reducible repeat (first | apply Kd.R_alloc | apply Kd.R_drewN | apply Kd.R_drew)); exact Kd.R_mono HO205.out (fun _ hk => ⟨hk.1.1.1, ⟨hk.1.1.2, ⟨hk.1.2, hk.2⟩⟩⟩)), (by (with_reducible repeat (first | apply Kd.R_alloc | apply Kd.R_drewN | apply Kd.R_drew)); exact Kd.R_mono HO211.out (fun _ hk => ⟨hk.1.1.1, ⟨hk.1.1.2, ⟨hk.1.2, hk.2⟩⟩⟩)), (by (with_reducible repeat (first | apply Kd.R_alloc | apply Kd.R_drewN | apply Kd.R_drew)); exact Kd.R_mono HO217.out (fun _ hk => ⟨hk.1.1.1, ⟨hk.1.1.2, ⟨hk.1.2, hk.2⟩⟩⟩)), (by (with_reducible repeat (first | apply Kd.R_alloc | apply Kd.R_drewN | apply Kd.R_drew)); exact Kd.R_mono HO227.out (fun _ hk => ⟨hk.1.1, ⟨hk.1.2.1, ⟨hk.1.2.2, hk.2⟩⟩⟩)), (by (with_reducible repeat (first | apply Kd.R_alloc | apply Kd.R_drewN | apply Kd.R_drew)); exact Kd.R_mono HO231.out (fun _ hk => ⟨hk.1.1.1.2, ⟨hk.1.1.2, ⟨hk.1.2, hk.2⟩⟩⟩)), (by (with_reducible repeat (first | refine blk_drewN ?_ _ | refine blk_drew ?_ | refine blk_alloc ?_ _)); exact BK201.out), (by repeat (first | (with_reducible first | exact HB.out | apply below_alloc | apply pw_below_drewN | apply below_drew1 | refine below_set ?_ GE201.out) | exact HB.out))⟩)
             ·skip
              refine Kd.R_lit_step k24 _ 24 ?hg (N := 66) ?hd (xs := ([(⟨(rd_T24 t203 (ji20)).f0, (rd_T24 t203 (ji20)).f1⟩ : S24)] : List (S24))) (inner := [.int .i64 ((rd_T24 t203 (ji20)).f0), .int .i64 ((rd_T24 t203 (ji20)).f1)]) (ok := fun _ => True) (okp := fun _ => True) ?hr ?hp (fun _ hk => hk) trivial (Below.refl _ _) (Nat.le_refl _) (by simp) ?_; (case hd => rfl); (case hg => rfl); (case hr => first | (go_simp; done) | (go_simp; rfl)); (case hp => exact (Reps.c2 (show Kd.M k24 _ _ _ (⟨(rd_T24 t203 (ji20)).f0, (rd_T24 t203 (ji20)).f1⟩ : S24) [.int .i64 ((rd_T24 t203 (ji20)).f0), .int .i64 ((rd_T24 t203 (ji20)).f1)] from (k24_mkM _ _ _ (⟨(rd_T24 t203 (ji20)).f0, (rd_T24 t203 (ji20)).f1⟩ : S24) )) (Reps.none _ _)))
              intro v230 w46 ho47 hb hg_ hnew_
              have HS0_ := (hb.cell (World.block_lt_of_cell? _ _ (hHeld.1))).trans (hHeld.1)
              have HS1_ := (hb.cell (World.block_lt_of_cell? _ _ (hHeld.2))).trans (hHeld.2)
              clear hg_ hnew_
              (first | rw [← Ny229.out] at ho47 | (simp only [Int.reduceToNat] at ho47; rw [← Ny229.out] at ho47))
              have n0_ := Aside0.mk (Kd.R_elder' (by (with_reducible repeat (first | apply Kd.R_alloc | apply Kd.R_drewN | apply Kd.R_drew)); exact HO205.out) (Kd.R_base ho47) hb)
              have n1_ := Aside0.mk (Kd.R_elder' (by (with_reducible repeat (first | apply Kd.R_alloc | apply Kd.R_drewN | apply Kd.R_drew)); exact HO211.out) (Kd.R_base ho47) hb)
              have n2_ := Aside0.mk (Kd.R_elder' (by (with_reducible repeat (first | apply Kd.R_alloc | apply Kd.R_drewN | apply Kd.R_drew)); exact HO217.out) (Kd.R_base ho47) hb)
              have n3_ := Aside0.mk (Kd.R_elder' (by (with_reducible repeat (first | apply Kd.R_alloc | apply Kd.R_drewN | apply Kd.R_drew)); exact HO224.out) (Kd.R_base ho47) hb)
              have n4_ := Aside0.mk (Kd.R_lower (Kd.R_new' (Kd.R_new' (Kd.R_new' (Kd.R_new' ho47 (Kd.R_lt (by (with_reducible repeat (first | apply Kd.R_alloc | apply Kd.R_drewN | apply Kd.R_drew)); exact HO205.out))) (Kd.R_lt (by (with_reducible repeat (first | apply Kd.R_alloc | apply Kd.R_drewN | apply Kd.R_drew)); exact HO211.out))) (Kd.R_lt (by (with_reducible repeat (first | apply Kd.R_alloc | apply Kd.R_drewN | apply Kd.R_drew)); exact HO217.out))) (Kd.R_lt (by (with_reducible repeat (first | apply Kd.R_alloc | apply Kd.R_drewN | apply Kd.R_drew)); exact HO224.out))) (below_size (by repeat (first | (with_reducible first | exact HB.out | apply below_alloc | apply pw_below_drewN | apply below_drew1 | refine below_set ?_ GE201.out) | exact HB.out))))
              have n5_ := Aside0.mk (blk_below (g := gb201) (o := .cells #[.int .u8 a1_0, .int .u8 a1_1] 41 (0, 0)) (by (with_reducible repeat (first | refine blk_drewN ?_ _ | refine blk_drew ?_ | refine blk_alloc ?_ _)); exact BK201.out) hb)
              have n6_ := Aside0.mk (below_step (by repeat (first | (with_reducible first | exact HB.out | apply below_alloc | apply pw_below_drewN | apply below_drew1 | refine below_set ?_ GE201.out) | exact HB.out)) hb)
              clear HO205
              clear HO211
              clear HO217
              clear HO224
              clear BK201
              clear HB
              have HO205 := n0_
              have HO211 := n1_
              have HO217 := n2_
              have HO224 := n3_
              have HO231 := n4_
              have BK201 := n5_
              have HB := n6_
              clear n0_ n1_ n2_ n3_ n4_ n5_ n6_
              clear hb ho47
              refine hK.out _ _ ⟨HS0_, HS1_⟩ (fun hHeld => ?_)
              clear hK K
              refine norm_ (a' := ?_) ?_ ?_
              rotate_left
              ·show Act.put _ (some 66) _ = _
               simp only [Act.put, List.setIfInBounds_toArray, List.set_cons_zero, List.set_cons_succ, i64_w, i32_w]
               rfl
              refine one_ (i := 2) (N := some 61) #[true, true, true, true, true, true, true, true, false, false] rfl rfl (one_of HT_.out (by kernel_rfl)) (by decide) (fun K hK => ?_)
              refine Kd.R_append_rows_step k24 (w0 := w) w.heap.size (by rfl) (.tmp 59) (.tmp 60) 22 24 (.agg #[(.int .i64 0), (.int .i64 0)]) 16 rfl Try.underlying22 info24 rfl (by decide) (by omega) v223 y222 t203 _ _ _ (fun k_ => some k_ ≠ (.slice (some ad218) t203.length co33 : Value).ownBlock ∧ some k_ ≠ (v210 : Value).ownBlock ∧ some k_ ≠ (.slice (some ⟨go24, 0, none⟩) y215.length co24 : Value).ownBlock ∧ some k_ ≠ (v230 : Value).ownBlock) (fun _ => False) rfl rfl ?aO ?aR (fun _ _ h => h) (fun _ h => h.elim) ?aF ?aB ?aS ?aL ?_
              (case aR => repeat (first | exact (Kd.R_reads' HO205.out).2.2 | (with_reducible refine Kd.C_alloc ?_ _) | (with_reducible refine Kd.C_drewN ?_ _) | (with_reducible refine Kd.C_drew ?_)))
              (case aB => exact (by repeat (first | (with_reducible first | exact HB.out | apply below_alloc | apply pw_below_drewN | apply below_drew1 | refine below_set ?_ GE201.out) | exact HB.out)))
              (case aF => exact (fun k_ hk => ⟨Kd.fresh' (Kd.R_lt (by (with_reducible repeat (first | apply Kd.R_alloc | apply Kd.R_drewN | apply Kd.R_drew)); exact HO205.out)) k_ hk, Kd.fresh' (Kd.R_lt (by (with_reducible repeat (first | apply Kd.R_alloc | apply Kd.R_drewN | apply Kd.R_drew)); exact HO211.out)) k_ hk, Kd.fresh' (Kd.R_lt (by (with_reducible repeat (first | apply Kd.R_alloc | apply Kd.R_drewN | apply Kd.R_drew)); exact HO217.out)) k_ hk, Kd.fresh' (Kd.R_lt (by (with_reducible repeat (first | apply Kd.R_alloc | apply Kd.R_drewN | apply Kd.R_drew)); exact HO231.out)) k_ hk⟩))
              (case aO => exact (by (with_reducible repeat (first | apply Kd.R_alloc | apply Kd.R_drewN | apply Kd.R_drew)); exact Kd.R_mono HO224.out (fun _ hk => ⟨hk.1.1.1.2, ⟨hk.1.1.2, ⟨hk.1.2, hk.2⟩⟩⟩)))
              (case aS => exact (below_size (by repeat (first | (with_reducible first | exact HB.out | apply below_alloc | apply pw_below_drewN | apply below_drew1 | refine below_set ?_ GE201.out) | exact HB.out))))
              (case aL => have := LMc27.out; omega)
              intro v226 w48 ho hb hg hat
              have HS0_ := Go.Proofs.YtebggajdojdebaaW.PrintWords.cell_grown hg (hHeld.1) (by first | (rw [add_block]; exact (fun e_ => by have h_ := HO224.out.1 _ e_.symm; first | exact h_.1 rfl | exact h_.2 rfl | exact h_.1.2 rfl | exact h_.1.1.2 rfl | exact h_.1.1.1.2 rfl | exact h_.1.1.1.1.2 rfl)) | (show some (Addr.add _ _).block ≠ _; rw [add_block]; exact (fun e_ => by have h_ := HO224.out.1 _ e_.symm; first | exact h_.1 rfl | exact h_.2 rfl | exact h_.1.2 rfl | exact h_.1.1.2 rfl | exact h_.1.1.1.2 rfl | exact h_.1.1.1.1.2 rfl)) | exact (fun e_ => by have h_ := HO224.out.1 _ e_.symm; first | exact h_.1 rfl | exact h_.2 rfl | exact h_.1.2 rfl | exact h_.1.1.2 rfl | exact h_.1.1.1.2 rfl | exact h_.1.1.1.1.2 rfl))
              have HS1_ := Go.Proofs.YtebggajdojdebaaW.PrintWords.cell_grown hg (hHeld.2) (by first | (rw [add_block]; exact (fun e_ => by have h_ := HO224.out.1 _ e_.symm; first | exact h_.1 rfl | exact h_.2 rfl | exact h_.1.2 rfl | exact h_.1.1.2 rfl | exact h_.1.1.1.2 rfl | exact h_.1.1.1.1.2 rfl)) | (show some (Addr.add _ _).block ≠ _; rw [add_block]; exact (fun e_ => by have h_ := HO224.out.1 _ e_.symm; first | exact h_.1 rfl | exact h_.2 rfl | exact h_.1.2 rfl | exact h_.1.1.2 rfl | exact h_.1.1.1.2 rfl | exact h_.1.1.1.1.2 rfl)) | exact (fun e_ => by have h_ := HO224.out.1 _ e_.symm; first | exact h_.1 rfl | exact h_.2 rfl | exact h_.1.2 rfl | exact h_.1.1.2 rfl | exact h_.1.1.1.2 rfl | exact h_.1.1.1.1.2 rfl))
              rw [← Ny225.out] at ho
              have n0_ := Aside0.mk (blk_grown (g := gb201) (o := .cells #[.int .u8 a1_0, .int .u8 a1_1] 41 (0, 0)) (by (with_reducible repeat (first | refine blk_drewN ?_ _ | refine blk_drew ?_ | refine blk_alloc ?_ _)); exact BK201.out) hg (Kd.R_ne HO224.out BK201.out (by decide)))
              have n1_ := Aside0.mk (Kd.R_after (ok := (fun k_ => some k_ ≠ (v210 : Value).ownBlock ∧ some k_ ≠ (.slice (some ⟨go24, 0, none⟩) y215.length co24 : Value).ownBlock ∧ some k_ ≠ (v230 : Value).ownBlock)) (by (with_reducible repeat (first | apply Kd.R_alloc | apply Kd.R_drewN | apply Kd.R_drew)); exact Kd.R_mono HO205.out (fun _ hk => ⟨⟨hk.1.1.1, ⟨hk.1.1.2, hk.2⟩⟩, hk.1.2⟩)) hg hat)
              have n2_ := Aside0.mk (Kd.R_after (ok := (fun k_ => some k_ ≠ (.slice (some ad218) t203.length co33 : Value).ownBlock ∧ some k_ ≠ (.slice (some ⟨go24, 0, none⟩) y215.length co24 : Value).ownBlock ∧ some k_ ≠ (v230 : Value).ownBlock)) (by (with_reducible repeat (first | apply Kd.R_alloc | apply Kd.R_drewN | apply Kd.R_drew)); exact Kd.R_mono HO211.out (fun _ hk => ⟨⟨hk.1.1.1, ⟨hk.1.1.2, hk.2⟩⟩, hk.1.2⟩)) hg hat)
              have n3_ := Aside0.mk (Kd.R_after (ok := (fun k_ => some k_ ≠ (.slice (some ad218) t203.length co33 : Value).ownBlock ∧ some k_ ≠ (v210 : Value).ownBlock ∧ some k_ ≠ (v230 : Value).ownBlock)) (by (with_reducible repeat (first | apply Kd.R_alloc | apply Kd.R_drewN | apply Kd.R_drew)); exact Kd.R_mono HO217.out (fun _ hk => ⟨⟨hk.1.1.1, ⟨hk.1.1.2, hk.2⟩⟩, hk.1.2⟩)) hg hat)
              have n4_ := Aside0.mk (Kd.R_after (ok := (fun k_ => some k_ ≠ (.slice (some ad218) t203.length co33 : Value).ownBlock ∧ some k_ ≠ (v210 : Value).ownBlock ∧ some k_ ≠ (.slice (some ⟨go24, 0, none⟩) y215.length co24 : Value).ownBlock)) (by (with_reducible repeat (first | apply Kd.R_alloc | apply Kd.R_drewN | apply Kd.R_drew)); exact Kd.R_mono HO231.out (fun _ hk => ⟨⟨hk.1.1.1.2, ⟨hk.1.1.2, hk.1.2⟩⟩, hk.2⟩)) hg hat)
              have n5_ := Aside0.mk (hb)
              have n6_ := Aside0.mk (ho)
              clear BK201
              clear HO205
              clear HO211
              clear HO217
              clear HO231
              clear HB
              clear HO224
              have BK201 := n0_
              have HO205 := n1_
              have HO211 := n2_
              have HO217 := n3_
              have HO231 := n4_
              have HB := n5_
              have HO227 := n6_
              clear n0_ n1_ n2_ n3_ n4_ n5_ n6_
              clear ho hb hg hat
              refine hK.out _ _ ⟨HS0_, HS1_⟩ (fun hHeld => ?_)
              clear hK K
              refine norm_ (a' := ?_) ?_ ?_
              rotate_left
              ·show Act.put _ (some 61) _ = _
               simp only [Act.put, List.setIfInBounds_toArray, List.set_cons_zero, List.set_cons_succ, i64_w, i32_w]
               rfl
              exact norm_ (by simp only [putAll, Act.put, List.setIfInBounds_toArray, List.set_cons_zero, List.set_cons_succ]) (hCont (v223, v226, v230) _ ⟨hHeld, (by (with_reducible repeat (first | apply Kd.R_alloc | apply Kd.R_drewN | apply Kd.R_drew)); exact Kd.R_mono HO205.out (fun _ hk => ⟨hk.1.1, ⟨hk.1.2.1, ⟨hk.2, hk.1.2.2⟩⟩⟩)), (by (with_reducible repeat (first | apply Kd.R_alloc | apply Kd.R_drewN | apply Kd.R_drew)); exact Kd.R_mono HO211.out (fun _ hk => ⟨hk.1.1, ⟨hk.1.2.1, ⟨hk.2, hk.1.2.2⟩⟩⟩)), (by (with_reducible repeat (first | apply Kd.R_alloc | apply Kd.R_drewN | apply Kd.R_drew)); exact Kd.R_mono HO217.out (fun _ hk => ⟨hk.1.1, ⟨hk.1.2.1, ⟨hk.2, hk.1.2.2⟩⟩⟩)), (by (with_reducible repeat (first | apply Kd.R_alloc | apply Kd.R_drewN | apply Kd.R_drew)); exact HO227.out), (by (with_reducible repeat (first | apply Kd.R_alloc | apply Kd.R_drewN | apply Kd.R_drew)); exact Kd.R_mono HO231.out (fun _ hk => ⟨hk.1.1, ⟨hk.1.2.1, ⟨hk.1.2.2, hk.2⟩⟩⟩)), (by (with_reducible repeat (first | refine blk_drewN ?_ _ | refine blk_drew ?_ | refine blk_alloc ?_ _)); exact BK201.out), (by repeat (first | (with_reducible first | exact HB.out | apply below_alloc | apply pw_below_drewN | apply below_drew1 | refine below_set ?_ GE201.out) | exact HB.out))⟩)
            ·skip
             refine Kd.R_lit_step k24 _ 24 ?hg (N := 66) ?hd (xs := ([(⟨(rd_T24 t203 (ji20)).f0, (rd_T24 t203 (ji20)).f1⟩ : S24)] : List (S24))) (inner := [.int .i64 ((rd_T24 t203 (ji20)).f0), .int .i64 ((rd_T24 t203 (ji20)).f1)]) (ok := fun _ => True) (okp := fun _ => True) ?hr ?hp (fun _ hk => hk) trivial (Below.refl _ _) (Nat.le_refl _) (by simp) ?_; (case hd => rfl); (case hg => rfl); (case hr => first | (go_simp; done) | (go_simp; rfl)); (case hp => exact (Reps.c2 (show Kd.M k24 _ _ _ (⟨(rd_T24 t203 (ji20)).f0, (rd_T24 t203 (ji20)).f1⟩ : S24) [.int .i64 ((rd_T24 t203 (ji20)).f0), .int .i64 ((rd_T24 t203 (ji20)).f1)] from (k24_mkM _ _ _ (⟨(rd_T24 t203 (ji20)).f0, (rd_T24 t203 (ji20)).f1⟩ : S24) )) (Reps.none _ _)))
             intro v230 w44 ho45 hb hg_ hnew_
             have HS0_ := (hb.cell (World.block_lt_of_cell? _ _ (hHeld.1))).trans (hHeld.1)
             have HS1_ := (hb.cell (World.block_lt_of_cell? _ _ (hHeld.2))).trans (hHeld.2)
             clear hg_ hnew_
             (first | rw [← Ny229.out] at ho45 | (simp only [Int.reduceToNat] at ho45; rw [← Ny229.out] at ho45))
             have n0_ := Aside0.mk (Kd.R_elder' (by (with_reducible repeat (first | apply Kd.R_alloc | apply Kd.R_drewN | apply Kd.R_drew)); exact HO205.out) (Kd.R_base ho45) hb)
             have n1_ := Aside0.mk (Kd.R_elder' (by (with_reducible repeat (first | apply Kd.R_alloc | apply Kd.R_drewN | apply Kd.R_drew)); exact HO211.out) (Kd.R_base ho45) hb)
             have n2_ := Aside0.mk (Kd.R_elder' (by (with_reducible repeat (first | apply Kd.R_alloc | apply Kd.R_drewN | apply Kd.R_drew)); exact HO217.out) (Kd.R_base ho45) hb)
             have n3_ := Aside0.mk (Kd.R_lower (Kd.R_new' (Kd.R_new' (Kd.R_new' ho45 (Kd.R_lt (by (with_reducible repeat (first | apply Kd.R_alloc | apply Kd.R_drewN | apply Kd.R_drew)); exact HO205.out))) (Kd.R_lt (by (with_reducible repeat (first | apply Kd.R_alloc | apply Kd.R_drewN | apply Kd.R_drew)); exact HO211.out))) (Kd.R_lt (by (with_reducible repeat (first | apply Kd.R_alloc | apply Kd.R_drewN | apply Kd.R_drew)); exact HO217.out))) (below_size (by repeat (first | (with_reducible first | exact HB.out | apply below_alloc | apply pw_below_drewN | apply below_drew1 | refine below_set ?_ GE201.out) | exact HB.out))))
             have n4_ := Aside0.mk (blk_below (g := gb201) (o := .cells #[.int .u8 a1_0, .int .u8 a1_1] 41 (0, 0)) (by (with_reducible repeat (first | refine blk_drewN ?_ _ | refine blk_drew ?_ | refine blk_alloc ?_ _)); exact BK201.out) hb)
             have n5_ := Aside0.mk (below_step (by repeat (first | (with_reducible first | exact HB.out | apply below_alloc | apply pw_below_drewN | apply below_drew1 | refine below_set ?_ GE201.out) | exact HB.out)) hb)
             clear HO205
             clear HO211
             clear HO217
             clear BK201
             clear HB
             have HO205 := n0_
             have HO211 := n1_
             have HO217 := n2_
             have HO231 := n3_
             have BK201 := n4_
             have HB := n5_
             clear n0_ n1_ n2_ n3_ n4_ n5_
             clear hb ho45
             refine hK.out _ _ ⟨HS0_, HS1_⟩ (fun hHeld => ?_)
             clear hK K
             refine norm_ (a' := ?_) ?_ ?_
             rotate_left
             ·show Act.put _ (some 66) _ = _
              simp only [Act.put, List.setIfInBounds_toArray, List.set_cons_zero, List.set_cons_succ, i64_w, i32_w]
              rfl
             refine one_ (i := 0) (N := some 59) #[true, true, false, true, true, true, true, true, false, false] rfl rfl (one_of HT_.out (by kernel_rfl)) (by decide) (fun K hK => ?_)
             refine Kd.R_lit_step k24 _ 24 ?hg (N := 59) ?hd (xs := ([] : List (S24))) (inner := []) (ok := fun _ => True) (okp := fun _ => True) ?hr ?hp (fun _ hk => hk) trivial (Below.refl _ _) (Nat.le_refl _) (by simp) ?_; (case hd => rfl); (case hg => rfl); (case hr => first | (go_simp; done) | (go_simp; rfl)); (case hp => exact (Reps.none _ _))
             intro v223 w46 ho47 hb hg_ hnew_
             have HS0_ := (hb.cell (World.block_lt_of_cell? _ _ (hHeld.1))).trans (hHeld.1)
             have HS1_ := (hb.cell (World.block_lt_of_cell? _ _ (hHeld.2))).trans (hHeld.2)
             clear hg_ hnew_
             (first | rw [← Ny222.out] at ho47 | (simp only [Int.reduceToNat] at ho47; rw [← Ny222.out] at ho47))
             have n0_ := Aside0.mk (Kd.R_elder' (by (with_reducible repeat (first | apply Kd.R_alloc | apply Kd.R_drewN | apply Kd.R_drew)); exact HO205.out) (Kd.R_base ho47) hb)
             have n1_ := Aside0.mk (Kd.R_elder' (by (with_reducible repeat (first | apply Kd.R_alloc | apply Kd.R_drewN | apply Kd.R_drew)); exact HO211.out) (Kd.R_base ho47) hb)
             have n2_ := Aside0.mk (Kd.R_elder' (by (with_reducible repeat (first | apply Kd.R_alloc | apply Kd.R_drewN | apply Kd.R_drew)); exact HO217.out) (Kd.R_base ho47) hb)
             have n3_ := Aside0.mk (Kd.R_elder' (by (with_reducible repeat (first | apply Kd.R_alloc | apply Kd.R_drewN | apply Kd.R_drew)); exact HO231.out) (Kd.R_base ho47) hb)
             have n4_ := Aside0.mk (Kd.R_lower (Kd.R_new' (Kd.R_new' (Kd.R_new' (Kd.R_new' ho47 (Kd.R_lt (by (with_reducible repeat (first | apply Kd.R_alloc | apply Kd.R_drewN | apply Kd.R_drew)); exact HO205.out))) (Kd.R_lt (by (with_reducible repeat (first | apply Kd.R_alloc | apply Kd.R_drewN | apply Kd.R_drew)); exact HO211.out))) (Kd.R_lt (by (with_reducible repeat (first | apply Kd.R_alloc | apply Kd.R_drewN | apply Kd.R_drew)); exact HO217.out))) (Kd.R_lt (by (with_reducible repeat (first | apply Kd.R_alloc | apply Kd.R_drewN | apply Kd.R_drew)); exact HO231.out))) (below_size (by repeat (first | (with_reducible first | exact HB.out | apply below_alloc | apply pw_below_drewN | apply below_drew1 | refine below_set ?_ GE201.out) | exact HB.out))))
             have n5_ := Aside0.mk (blk_below (g := gb201) (o := .cells #[.int .u8 a1_0, .int .u8 a1_1] 41 (0, 0)) (by (with_reducible repeat (first | refine blk_drewN ?_ _ | refine blk_drew ?_ | refine blk_alloc ?_ _)); exact BK201.out) hb)
             have n6_ := Aside0.mk (below_step (by repeat (first | (with_reducible first | exact HB.out | apply below_alloc | apply pw_below_drewN | apply below_drew1 | refine below_set ?_ GE201.out) | exact HB.out)) hb)
             clear HO205
             clear HO211
             clear HO217
             clear HO231
             clear BK201
             clear HB
             have HO205 := n0_
             have HO211 := n1_
             have HO217 := n2_
             have HO231 := n3_
             have HO224 := n4_
             have BK201 := n5_
             have HB := n6_
             clear n0_ n1_ n2_ n3_ n4_ n5_ n6_
             clear hb ho47
             refine hK.out _ _ ⟨HS0_, HS1_⟩ (fun hHeld => ?_)
             clear hK K
             refine norm_ (a' := ?_) ?_ ?_
             rotate_left
             ·show Act.put _ (some 59) _ = _
              simp only [Act.put, List.setIfInBounds_toArray, List.set_cons_zero, List.set_cons_succ, i64_w, i32_w]
              rfl
             refine one_ (i := 2) (N := some 61) #[true, true, true, true, true, true, true, true, false, false] rfl rfl (one_of HT_.out (by kernel_rfl)) (by decide) (fun K hK => ?_)
             refine Kd.R_append_rows_step k24 (w0 := w) w.heap.size (by rfl) (.tmp 59) (.tmp 60) 22 24 (.agg #[(.int .i64 0), (.int .i64 0)]) 16 rfl Try.underlying22 info24 rfl (by decide) (by omega) v223 y222 t203 _ _ _ (fun k_ => some k_ ≠ (.slice (some ad218) t203.length co33 : Value).ownBlock ∧ some k_ ≠ (v210 : Value).ownBlock ∧ some k_ ≠ (.slice (some ⟨go24, 0, none⟩) y215.length co24 : Value).ownBlock ∧ some k_ ≠ (v230 : Value).ownBlock) (fun _ => False) rfl rfl ?aO ?aR (fun _ _ h => h) (fun _ h => h.elim) ?aF ?aB ?aS ?aL ?_
             (case aR => repeat (first | exact (Kd.R_reads' HO205.out).2.2 | (with_reducible refine Kd.C_alloc ?_ _) | (with_reducible refine Kd.C_drewN ?_ _) | (with_reducible refine Kd.C_drew ?_)))
             (case aB => exact (by repeat (first | (with_reducible first | exact HB.out | apply below_alloc | apply pw_below_drewN | apply below_drew1 | refine below_set ?_ GE201.out) | exact HB.out)))
             (case aF => exact (fun k_ hk => ⟨Kd.fresh' (Kd.R_lt (by (with_reducible repeat (first | apply Kd.R_alloc | apply Kd.R_drewN | apply Kd.R_drew)); exact HO205.out)) k_ hk, Kd.fresh' (Kd.R_lt (by (with_reducible repeat (first | apply Kd.R_alloc | apply Kd.R_drewN | apply Kd.R_drew)); exact HO211.out)) k_ hk, Kd.fresh' (Kd.R_lt (by (with_reducible repeat (first | apply Kd.R_alloc | apply Kd.R_drewN | apply Kd.R_drew)); exact HO217.out)) k_ hk, Kd.fresh' (Kd.R_lt (by (with_reducible repeat (first | apply Kd.R_alloc | apply Kd.R_drewN | apply Kd.R_drew)); exact HO231.out)) k_ hk⟩))
             (case aO => exact (by (with_reducible repeat (first | apply Kd.R_alloc | apply Kd.R_drewN | apply Kd.R_drew)); exact Kd.R_mono HO224.out (fun _ hk => ⟨hk.1.1.1.2, ⟨hk.1.1.2, ⟨hk.1.2, hk.2⟩⟩⟩)))
             (case aS => exact (below_size (by repeat (first | (with_reducible first | exact HB.out | apply below_alloc | apply pw_below_drewN | apply below_drew1 | refine below_set ?_ GE201.out) | exact HB.out))))
             (case aL => have := LMc27.out; omega)
             intro v226 w48 ho hb hg hat
             have HS0_ := Go.Proofs.YtebggajdojdebaaW.PrintWords.cell_grown hg (hHeld.1) (by first | (rw [add_block]; exact (fun e_ => by have h_ := HO224.out.1 _ e_.symm; first | exact h_.1 rfl | exact h_.2 rfl | exact h_.1.2 rfl | exact h_.1.1.2 rfl | exact h_.1.1.1.2 rfl | exact h_.1.1.1.1.2 rfl)) | (show some (Addr.add _ _).block ≠ _; rw [add_block]; exact (fun e_ => by have h_ := HO224.out.1 _ e_.symm; first | exact h_.1 rfl | exact h_.2 rfl | exact h_.1.2 rfl | exact h_.1.1.2 rfl | exact h_.1.1.1.2 rfl | exact h_.1.1.1.1.2 rfl)) | exact (fun e_ => by have h_ := HO224.out.1 _ e_.symm; first | exact h_.1 rfl | exact h_.2 rfl | exact h_.1.2 rfl | exact h_.1.1.2 rfl | exact h_.1.1.1.2 rfl | exact h_.1.1.1.1.2 rfl))
             have HS1_ := Go.Proofs.YtebggajdojdebaaW.PrintWords.cell_grown hg (hHeld.2) (by first | (rw [add_block]; exact (fun e_ => by have h_ := HO224.out.1 _ e_.symm; first | exact h_.1 rfl | exact h_.2 rfl | exact h_.1.2 rfl | exact h_.1.1.2 rfl | exact h_.1.1.1.2 rfl | exact h_.1.1.1.1.2 rfl)) | (show some (Addr.add _ _).block ≠ _; rw [add_block]; exact (fun e_ => by have h_ := HO224.out.1 _ e_.symm; first | exact h_.1 rfl | exact h_.2 rfl | exact h_.1.2 rfl | exact h_.1.1.2 rfl | exact h_.1.1.1.2 rfl | exact h_.1.1.1.1.2 rfl)) | exact (fun e_ => by have h_ := HO224.out.1 _ e_.symm; first | exact h_.1 rfl | exact h_.2 rfl | exact h_.1.2 rfl | exact h_.1.1.2 rfl | exact h_.1.1.1.2 rfl | exact h_.1.1.1.1.2 rfl))
             rw [← Ny225.out] at ho
             have n0_ := Aside0.mk (blk_grown (g := gb201) (o := .cells #[.int .u8 a1_0, .int .u8 a1_1] 41 (0, 0)) (by (with_reducible repeat (first | refine blk_drewN ?_ _ | refine blk_drew ?_ | refine blk_alloc ?_ _)); exact BK201.out) hg (Kd.R_ne HO224.out BK201.out (by decide)))
             have n1_ := Aside0.mk (Kd.R_after (ok := (fun k_ => some k_ ≠ (v210 : Value).ownBlock ∧ some k_ ≠ (.slice (some ⟨go24, 0, none⟩) y215.length co24 : Value).ownBlock ∧ some k_ ≠ (v230 : Value).ownBlock)) (by (with_reducible repeat (first | apply Kd.R_alloc | apply Kd.R_drewN | apply Kd.R_drew)); exact Kd.R_mono HO205.out (fun _ hk => ⟨⟨hk.1.1.1, ⟨hk.1.1.2, hk.1.2⟩⟩, hk.2⟩)) hg hat)
             have n2_ := Aside0.mk (Kd.R_after (ok := (fun k_ => some k_ ≠ (.slice (some ad218) t203.length co33 : Value).ownBlock ∧ some k_ ≠ (.slice (some ⟨go24, 0, none⟩) y215.length co24 : Value).ownBlock ∧ some k_ ≠ (v230 : Value).ownBlock)) (by (with_reducible repeat (first | apply Kd.R_alloc | apply Kd.R_drewN | apply Kd.R_drew)); exact Kd.R_mono HO211.out (fun _ hk => ⟨⟨hk.1.1.1, ⟨hk.1.1.2, hk.1.2⟩⟩, hk.2⟩)) hg hat)
             have n3_ := Aside0.mk (Kd.R_after (ok := (fun k_ => some k_ ≠ (.slice (some ad218) t203.length co33 : Value).ownBlock ∧ some k_ ≠ (v210 : Value).ownBlock ∧ some k_ ≠ (v230 : Value).ownBlock)) (by (with_reducible repeat (first | apply Kd.R_alloc | apply Kd.R_drewN | apply Kd.R_drew)); exact Kd.R_mono HO217.out (fun _ hk => ⟨⟨hk.1.1.1, ⟨hk.1.1.2, hk.1.2⟩⟩, hk.2⟩)) hg hat)
             have n4_ := Aside0.mk (Kd.R_after (ok := (fun k_ => some k_ ≠ (.slice (some ad218) t203.length co33 : Value).ownBlock ∧ some k_ ≠ (v210 : Value).ownBlock ∧ some k_ ≠ (.slice (some ⟨go24, 0, none⟩) y215.length co24 : Value).ownBlock)) (by (with_reducible repeat (first | apply Kd.R_alloc | apply Kd.R_drewN | apply Kd.R_drew)); exact Kd.R_mono HO231.out (fun _ hk => ⟨⟨hk.1.1.1.2, ⟨hk.1.1.2, hk.1.2⟩⟩, hk.2⟩)) hg hat)
             have n5_ := Aside0.mk (hb)
             have n6_ := Aside0.mk (ho)
             clear BK201
             clear HO205
             clear HO211
             clear HO217
             clear HO231
             clear HB
             clear HO224
             have BK201 := n0_
             have HO205 := n1_
             have HO211 := n2_
             have HO217 := n3_
             have HO231 := n4_
             have HB := n5_
             have HO227 := n6_
             clear n0_ n1_ n2_ n3_ n4_ n5_ n6_
             clear ho hb hg hat
             refine hK.out _ _ ⟨HS0_, HS1_⟩ (fun hHeld => ?_)
             clear hK K
             refine norm_ (a' := ?_) ?_ ?_
             rotate_left
             ·show Act.put _ (some 61) _ = _
              simp only [Act.put, List.setIfInBounds_toArray, List.set_cons_zero, List.set_cons_succ, i64_w, i32_w]
              rfl
             exact norm_ (by simp only [putAll, Act.put, List.setIfInBounds_toArray, List.set_cons_zero, List.set_cons_succ]) (hCont (v223, v226, v230) _ ⟨hHeld, (by (with_reducible repeat (first | apply Kd.R_alloc | apply Kd.R_drewN | apply Kd.R_drew)); exact Kd.R_mono HO205.out (fun _ hk => ⟨hk.1.1, ⟨hk.1.2.1, ⟨hk.2, hk.1.2.2⟩⟩⟩)), (by (with_reducible repeat (first | apply Kd.R_alloc | apply Kd.R_drewN | apply Kd.R_drew)); exact Kd.R_mono HO211.out (fun _ hk => ⟨hk.1.1, ⟨hk.1.2.1, ⟨hk.2, hk.1.2.2⟩⟩⟩)), (by (with_reducible repeat (first | apply Kd.R_alloc | apply Kd.R_drewN | apply Kd.R_drew)); exact Kd.R_mono HO217.out (fun _ hk => ⟨hk.1.1, ⟨hk.1.2.1, ⟨hk.2, hk.1.2.2⟩⟩⟩)), (by (with_reducible repeat (first | apply Kd.R_alloc | apply Kd.R_drewN | apply Kd.R_drew)); exact HO227.out), (by (with_reducible repeat (first | apply Kd.R_alloc | apply Kd.R_drewN | apply Kd.R_drew)); exact Kd.R_mono HO231.out (fun _ hk => ⟨hk.1.1, ⟨hk.1.2.1, ⟨hk.1.2.2, hk.2⟩⟩⟩)), (by (with_reducible repeat (first | refine blk_drewN ?_ _ | refine blk_drew ?_ | refine blk_alloc ?_ _)); exact BK201.out), (by repeat (first | (with_reducible first | exact HB.out | apply below_alloc | apply pw_below_drewN | apply below_drew1 | refine below_set ?_ GE201.out) | exact HB.out))⟩)
           rintro ⟨v223, v226, v230⟩ w49 ⟨hS_, h0_, h1_, h2_, h3_, h4_, h5_, h6_⟩
           have n0_ : Aside0 (Kd.R k24 24 w49 w.heap.size (fun k_ => some k_ ≠ (v210 : Value).ownBlock ∧ some k_ ≠ (.slice (some ⟨go24, 0, none⟩) y215.length co24 : Value).ownBlock ∧ some k_ ≠ (v226 : Value).ownBlock ∧ some k_ ≠ (v230 : Value).ownBlock) (.slice (some ad218) t203.length co33) t203) := ⟨h0_⟩
           have n1_ : Aside0 (Kd.R k24 24 w49 w.heap.size (fun k_ => some k_ ≠ (.slice (some ad218) t203.length co33 : Value).ownBlock ∧ some k_ ≠ (.slice (some ⟨go24, 0, none⟩) y215.length co24 : Value).ownBlock ∧ some k_ ≠ (v226 : Value).ownBlock ∧ some k_ ≠ (v230 : Value).ownBlock) v210 t209) := ⟨h1_⟩
           have n2_ : Aside0 (Kd.R k24 24 w49 w.heap.size (fun k_ => some k_ ≠ (.slice (some ad218) t203.length co33 : Value).ownBlock ∧ some k_ ≠ (v210 : Value).ownBlock ∧ some k_ ≠ (v226 : Value).ownBlock ∧ some k_ ≠ (v230 : Value).ownBlock) (.slice (some ⟨go24, 0, none⟩) y215.length co24) y221) := ⟨h2_⟩
           have n3_ : Aside0 (Kd.R k24 24 w49 w.heap.size (fun k_ => some k_ ≠ (.slice (some ad218) t203.length co33 : Value).ownBlock ∧ some k_ ≠ (v210 : Value).ownBlock ∧ some k_ ≠ (.slice (some ⟨go24, 0, none⟩) y215.length co24 : Value).ownBlock ∧ some k_ ≠ (v230 : Value).ownBlock) v226 y225) := ⟨h3_⟩
           have n4_ : Aside0 (Kd.R k24 24 w49 w.heap.size (fun k_ => some k_ ≠ (.slice (some ad218) t203.length co33 : Value).ownBlock ∧ some k_ ≠ (v210 : Value).ownBlock ∧ some k_ ≠ (.slice (some ⟨go24, 0, none⟩) y215.length co24 : Value).ownBlock ∧ some k_ ≠ (v226 : Value).ownBlock) v230 y229) := ⟨h4_⟩
           have n5_ : Aside0 (w49.heap[gb201]? = some (.cells #[.int .u8 a1_0, .int .u8 a1_1] 41 (0, 0))) := ⟨h5_⟩
           have n6_ : Aside0 (Below w.heap.size w w49) := ⟨h6_⟩
           clear HO205
           clear HO211
           clear HO217
           clear BK201
           clear HB
           clear h0_ h1_ h2_ h3_ h4_ h5_ h6_
           have HO205 := n0_
           have HO211 := n1_
           have HO217 := n2_
           have HO227 := n3_
           have HO231 := n4_
           have BK201 := n5_
           have HB := n6_
           clear n0_ n1_ n2_ n3_ n4_ n5_ n6_
           have hHeld : w49.cell? (ad218.add (((ji20)).toNat * 2)) = some (.int .i64 ((rd_T24 t203 (ji20)).f0)) ∧ w49.cell? ⟨(ad218.add (((ji20)).toNat * 2)).block, (ad218.add (((ji20)).toNat * 2)).off + 1, none⟩ = some (.int .i64 ((rd_T24 t203 (ji20)).f1)) := hS_
           obtain ⟨Ao51, co51, eo51⟩ := Kd.R_slice HO231.out
           (first | subst eo51 | (injection eo51 with f1_ f2_ f3_; have f4_ := f1_.symm; have f5_ := f3_.symm; clear f1_ f2_ f3_; subst f4_; subst f5_))
           refine norm_ (a' := ?_) ?_ ?_
           rotate_left
           ·simp only [putAll, Act.put, List.setIfInBounds_toArray, List.set_cons_zero, List.set_cons_succ]
            rfl
           refine one_ (i := 8) (N := some 67) #[true, true, true, true, true, true, true, true, true, false] rfl rfl (one_of HT_.out (by kernel_rfl)) (by decide) (fun K hK => ?_)
           refine Kd.R_append_rows_step k24 (w0 := w) w.heap.size (by rfl) (.tmp 61) (.tmp 66) 22 24 (.agg #[(.int .i64 0), (.int .i64 0)]) 16 rfl Try.underlying22 info24 rfl (by decide) (by omega) v226 y225 y229 _ _ _ (fun k_ => some k_ ≠ (.slice (some ad218) t203.length co33 : Value).ownBlock ∧ some k_ ≠ (v210 : Value).ownBlock ∧ some k_ ≠ (.slice (some ⟨go24, 0, none⟩) y215.length co24 : Value).ownBlock ∧ some k_ ≠ (.slice Ao51 y229.length co51 : Value).ownBlock) (fun _ => False) rfl rfl ?aO ?aR (fun _ _ h => h) (fun _ h => h.elim) ?aF ?aB ?aS ?aL ?_
           (case aR => repeat (first | exact (Kd.R_reads' HO231.out).2.2 | (with_reducible refine Kd.C_alloc ?_ _) | (with_reducible refine Kd.C_drewN ?_ _) | (with_reducible refine Kd.C_drew ?_)))
           (case aB => exact (by repeat (first | (with_reducible first | exact HB.out | apply below_alloc | apply pw_below_drewN | apply below_drew1 | refine below_set ?_ GE201.out) | exact HB.out)))
           (case aF => exact (fun k_ hk => ⟨Kd.fresh' (Kd.R_lt (by (with_reducible repeat (first | apply Kd.R_alloc | apply Kd.R_drewN | apply Kd.R_drew)); exact HO205.out)) k_ hk, Kd.fresh' (Kd.R_lt (by (with_reducible repeat (first | apply Kd.R_alloc | apply Kd.R_drewN | apply Kd.R_drew)); exact HO211.out)) k_ hk, Kd.fresh' (Kd.R_lt (by (with_reducible repeat (first | apply Kd.R_alloc | apply Kd.R_drewN | apply Kd.R_drew)); exact HO217.out)) k_ hk, Kd.fresh' (Kd.R_lt (by (with_reducible repeat (first | apply Kd.R_alloc | apply Kd.R_drewN | apply Kd.R_drew)); exact HO231.out)) k_ hk⟩))
           (case aO => exact (by (with_reducible repeat (first | apply Kd.R_alloc | apply Kd.R_drewN | apply Kd.R_drew)); exact HO227.out))
           (case aS => exact (below_size (by repeat (first | (with_reducible first | exact HB.out | apply below_alloc | apply pw_below_drewN | apply below_drew1 | refine below_set ?_ GE201.out) | exact HB.out))))
           (case aL => have := LMc28.out; omega)
           intro v233 w50 ho hb hg hat
           have HS0_ := Go.Proofs.YtebggajdojdebaaW.PrintWords.cell_grown hg (hHeld.1) (by first | (rw [add_block]; exact (fun e_ => by have h_ := HO227.out.1 _ e_.symm; first | exact h_.1 rfl | exact h_.2 rfl | exact h_.1.2 rfl | exact h_.1.1.2 rfl | exact h_.1.1.1.2 rfl | exact h_.1.1.1.1.2 rfl)) | (show some (Addr.add _ _).block ≠ _; rw [add_block]; exact (fun e_ => by have h_ := HO227.out.1 _ e_.symm; first | exact h_.1 rfl | exact h_.2 rfl | exact h_.1.2 rfl | exact h_.1.1.2 rfl | exact h_.1.1.1.2 rfl | exact h_.1.1.1.1.2 rfl)) | exact (fun e_ => by have h_ := HO227.out.1 _ e_.symm; first | exact h_.1 rfl | exact h_.2 rfl | exact h_.1.2 rfl | exact h_.1.1.2 rfl | exact h_.1.1.1.2 rfl | exact h_.1.1.1.1.2 rfl))
           have HS1_ := Go.Proofs.YtebggajdojdebaaW.PrintWords.cell_grown hg (hHeld.2) (by first | (rw [add_block]; exact (fun e_ => by have h_ := HO227.out.1 _ e_.symm; first | exact h_.1 rfl | exact h_.2 rfl | exact h_.1.2 rfl | exact h_.1.1.2 rfl | exact h_.1.1.1.2 rfl | exact h_.1.1.1.1.2 rfl)) | (show some (Addr.add _ _).block ≠ _; rw [add_block]; exact (fun e_ => by have h_ := HO227.out.1 _ e_.symm; first | exact h_.1 rfl | exact h_.2 rfl | exact h_.1.2 rfl | exact h_.1.1.2 rfl | exact h_.1.1.1.2 rfl | exact h_.1.1.1.1.2 rfl)) | exact (fun e_ => by have h_ := HO227.out.1 _ e_.symm; first | exact h_.1 rfl | exact h_.2 rfl | exact h_.1.2 rfl | exact h_.1.1.2 rfl | exact h_.1.1.1.2 rfl | exact h_.1.1.1.1.2 rfl))
           rw [← Ny232.out] at ho
           have n0_ := Aside0.mk (blk_grown (g := gb201) (o := .cells #[.int .u8 a1_0, .int .u8 a1_1] 41 (0, 0)) (by (with_reducible repeat (first | refine blk_drewN ?_ _ | refine blk_drew ?_ | refine blk_alloc ?_ _)); exact BK201.out) hg (Kd.R_ne HO227.out BK201.out (by decide)))
           have n1_ := Aside0.mk (Kd.R_after (ok := (fun k_ => some k_ ≠ (v210 : Value).ownBlock ∧ some k_ ≠ (.slice (some ⟨go24, 0, none⟩) y215.length co24 : Value).ownBlock ∧ some k_ ≠ (.slice Ao51 y229.length co51 : Value).ownBlock)) (by (with_reducible repeat (first | apply Kd.R_alloc | apply Kd.R_drewN | apply Kd.R_drew)); exact Kd.R_mono HO205.out (fun _ hk => ⟨⟨hk.1, ⟨hk.2.1, hk.2.2.2⟩⟩, hk.2.2.1⟩)) hg hat)
           have n2_ := Aside0.mk (Kd.R_after (ok := (fun k_ => some k_ ≠ (.slice (some ad218) t203.length co33 : Value).ownBlock ∧ some k_ ≠ (.slice (some ⟨go24, 0, none⟩) y215.length co24 : Value).ownBlock ∧ some k_ ≠ (.slice Ao51 y229.length co51 : Value).ownBlock)) (by (with_reducible repeat (first | apply Kd.R_alloc | apply Kd.R_drewN | apply Kd.R_drew)); exact Kd.R_mono HO211.out (fun _ hk => ⟨⟨hk.1, ⟨hk.2.1, hk.2.2.2⟩⟩, hk.2.2.1⟩)) hg hat)
           have n3_ := Aside0.mk (Kd.R_after (ok := (fun k_ => some k_ ≠ (.slice (some ad218) t203.length co33 : Value).ownBlock ∧ some k_ ≠ (v210 : Value).ownBlock ∧ some k_ ≠ (.slice Ao51 y229.length co51 : Value).ownBlock)) (by (with_reducible repeat (first | apply Kd.R_alloc | apply Kd.R_drewN | apply Kd.R_drew)); exact Kd.R_mono HO217.out (fun _ hk => ⟨⟨hk.1, ⟨hk.2.1, hk.2.2.2⟩⟩, hk.2.2.1⟩)) hg hat)
           have n4_ := Aside0.mk (Kd.R_after (ok := (fun k_ => some k_ ≠ (.slice (some ad218) t203.length co33 : Value).ownBlock ∧ some k_ ≠ (v210 : Value).ownBlock ∧ some k_ ≠ (.slice (some ⟨go24, 0, none⟩) y215.length co24 : Value).ownBlock)) (by (with_reducible repeat (first | apply Kd.R_alloc | apply Kd.R_drewN | apply Kd.R_drew)); exact Kd.R_mono HO231.out (fun _ hk => ⟨⟨hk.1, ⟨hk.2.1, hk.2.2.1⟩⟩, hk.2.2.2⟩)) hg hat)
           have n5_ := Aside0.mk (hb)
           have n6_ := Aside0.mk (ho)
           clear BK201
           clear HO205
           clear HO211
           clear HO217
           clear HO231
           clear HB
           clear HO227
           have BK201 := n0_
           have HO205 := n1_
           have HO211 := n2_
           have HO217 := n3_
           have HO231 := n4_
           have HB := n5_
           have HO234 := n6_
           clear n0_ n1_ n2_ n3_ n4_ n5_ n6_
           clear ho hb hg hat
           refine hK.out _ _ ⟨HS0_, HS1_⟩ (fun hHeld => ?_)
           clear hK K
           refine norm_ (a' := ?_) ?_ ?_
           rotate_left
           ·show Act.put _ (some 67) _ = _
            simp only [Act.put, List.setIfInBounds_toArray, List.set_cons_zero, List.set_cons_succ, i64_w, i32_w]
            rfl
           refine pure_ (i := 9) (N := some 13) (v := ?_) (a' := ?_) #[true, true, true, true, true, true, true, true, true, true] rfl rfl (any_of HT_.out (by kernel_rfl)) (fun _ _ _ h => h) (Or.inl ⟨by rfl, ?_⟩) ?_ ?_
           rotate_left
           ·intro w'
            go_simp
            with_reducible rfl
           rotate_left
           ·simp only [Act.put, List.setIfInBounds_toArray, List.set_cons_zero, List.set_cons_succ, i64_w, i32_w]
            rfl
           refine done_ (done_of HT_.out (by kernel_rfl)) ?_
           go_upto_region 9 with (fail)
           go_cut [86] (fun v86 wc => ∃ (kq : Nat) (x86_28 : Bool), v86 = .bool x86_28 ∧ Aside0 (l11_SpanOrder.j0 kq a2 t202 t203 t209 ji20 x86_28 = some r) ∧ Aside0 (kq ≤ k) ∧ Aside0 (Kd.R k24 24 wc w.heap.size (fun k_ => some k_ ≠ (v210 : Value).ownBlock) (.slice (some ad218) t203.length co33) t203) ∧ Aside0 (Kd.R k24 24 wc w.heap.size (fun k_ => some k_ ≠ ((.slice (some ad218) t203.length co33) : Value).ownBlock) v210 t209) ∧ Aside0 (wc.heap[gb201]? = some (.cells #[.int .u8 a1_0, .int .u8 a1_1] 41 (0, 0))) ∧ Aside0 (Below w.heap.size w wc))
           case first =>
            have H := HC29.out
            clear HC29
            replace H := Option.bind_eq_some_iff.mp H
            obtain ⟨t235, A520, H⟩ := H
            replace H : ((r11_Same.f k t235 t209).bind fun t238 => (if t238 = true then ((span_Norm.f y232).bind fun t239 => ((r11_Same.f k t239 t209).bind fun t242 => (if t242 = true then ((span_Union.f t203 ([] : List (S24))).bind fun t243 => ((r11_Same.f k t243 t209).bind fun t246 => (l11_SpanOrder.j0 k a2 t202 t203 t209 ji20 (!t246)))) else (l11_SpanOrder.j0 k a2 t202 t203 t209 ji20 true)))) else (l11_SpanOrder.j0 k a2 t202 t203 t209 ji20 true))) = some r := H
            have A52 := Aside0.mk A520
            clear A520
            replace H := Option.bind_eq_some_iff.mp H
            obtain ⟨t238, A530, H⟩ := H
            replace H : (if t238 = true then ((span_Norm.f y232).bind fun t239 => ((r11_Same.f k t239 t209).bind fun t242 => (if t242 = true then ((span_Union.f t203 ([] : List (S24))).bind fun t243 => ((r11_Same.f k t243 t209).bind fun t246 => (l11_SpanOrder.j0 k a2 t202 t203 t209 ji20 (!t246)))) else (l11_SpanOrder.j0 k a2 t202 t203 t209 ji20 true)))) else (l11_SpanOrder.j0 k a2 t202 t203 t209 ji20 true)) = some r := H
            have A53 := Aside0.mk A530
            clear A530
            by_cases c54 : t238 = true
            ·subst c54
             have H1 : ((span_Norm.f y232).bind fun t239 => ((r11_Same.f k t239 t209).bind fun t242 => (if t242 = true then ((span_Union.f t203 ([] : List (S24))).bind fun t243 => ((r11_Same.f k t243 t209).bind fun t246 => (l11_SpanOrder.j0 k a2 t202 t203 t209 ji20 (!t246)))) else (l11_SpanOrder.j0 k a2 t202 t203 t209 ji20 true)))) = some r := by rw [if_pos rfl] at H; exact H
             clear H
             have H := H1
             clear H1
             replace H := Option.bind_eq_some_iff.mp H
             obtain ⟨t239, A550, H⟩ := H
             replace H : ((r11_Same.f k t239 t209).bind fun t242 => (if t242 = true then ((span_Union.f t203 ([] : List (S24))).bind fun t243 => ((r11_Same.f k t243 t209).bind fun t246 => (l11_SpanOrder.j0 k a2 t202 t203 t209 ji20 (!t246)))) else (l11_SpanOrder.j0 k a2 t202 t203 t209 ji20 true))) = some r := H
             have A55 := Aside0.mk A550
             clear A550
             replace H := Option.bind_eq_some_iff.mp H
             obtain ⟨t242, A560, H⟩ := H
             replace H : (if t242 = true then ((span_Union.f t203 ([] : List (S24))).bind fun t243 => ((r11_Same.f k t243 t209).bind fun t246 => (l11_SpanOrder.j0 k a2 t202 t203 t209 ji20 (!t246)))) else (l11_SpanOrder.j0 k a2 t202 t203 t209 ji20 true)) = some r := H
             have A56 := Aside0.mk A560
             clear A560
             by_cases c57 : t242 = true
             ·subst c57
              have H1 : ((span_Union.f t203 ([] : List (S24))).bind fun t243 => ((r11_Same.f k t243 t209).bind fun t246 => (l11_SpanOrder.j0 k a2 t202 t203 t209 ji20 (!t246)))) = some r := by rw [if_pos rfl] at H; exact H
              clear H
              have H := H1
              clear H1
              replace H := Option.bind_eq_some_iff.mp H
              obtain ⟨t243, A580, H⟩ := H
              replace H : ((r11_Same.f k t243 t209).bind fun t246 => (l11_SpanOrder.j0 k a2 t202 t203 t209 ji20 (!t246))) = some r := H
              have A58 := Aside0.mk A580
              clear A580
              replace H := Option.bind_eq_some_iff.mp H
              obtain ⟨t246, A590, H⟩ := H
              replace H : (l11_SpanOrder.j0 k a2 t202 t203 t209 ji20 (!t246)) = some r := H
              have A59 := Aside0.mk A590
              clear A590
              have H' := Aside0.mk H
              clear H
              go_wp2_with (first | ((with_reducible refine gate_callee (f := 15) rfl ?_); refine goesL_ (some 69) rfl rfl Try.func15 (by kernel_rfl) rfl #[.slice (some ⟨go24, 0, none⟩) y221.length co24] rfl (by (try simp only [List.map_toArray, List.map_cons, List.map_nil]); first | done | (rw [show y221.length = y215.length from (Kd.R_reads' HO217.out).1.symm] <;> rfl) | rfl | (simp only [List.length_drop, List.length_take]; rfl)) ?_; (with_reducible refine (span_Norm.calls _ _ y221 t235 _ ?side1 ?side2 A52.out).mono ?_); (case side1 => repeat (first | exact (Kd.R_reads' HO217.out).2.2 | (with_reducible refine Kd.C_alloc ?_ _) | (with_reducible refine Kd.C_drewN ?_ _) | (with_reducible refine Kd.C_drew ?_))); (case side2 => rw [show y221.length = y215.length from (Kd.R_reads' HO217.out).1.symm]; exact (Kd.R_reads' HO217.out).2.1); rintro e w60 ⟨v236, rfl, ho0, hb⟩; refine ⟨_, rfl, ?_⟩; have n0_ := Aside0.mk (Kd.R_elder' (by (with_reducible repeat (first | apply Kd.R_alloc | apply Kd.R_drewN | apply Kd.R_drew)); exact HO205.out) (Kd.R_base ho0) hb); have n1_ := Aside0.mk (Kd.R_elder' (by (with_reducible repeat (first | apply Kd.R_alloc | apply Kd.R_drewN | apply Kd.R_drew)); exact HO211.out) (Kd.R_base ho0) hb); have n2_ := Aside0.mk (Kd.R_elder' (by (with_reducible repeat (first | apply Kd.R_alloc | apply Kd.R_drewN | apply Kd.R_drew)); exact HO217.out) (Kd.R_base ho0) hb); have n3_ := Aside0.mk (Kd.R_elder' (by (with_reducible repeat (first | apply Kd.R_alloc | apply Kd.R_drewN | apply Kd.R_drew)); exact HO231.out) (Kd.R_base ho0) hb); have n4_ := Aside0.mk (Kd.R_elder' (by (with_reducible repeat (first | apply Kd.R_alloc | apply Kd.R_drewN | apply Kd.R_drew)); exact HO234.out) (Kd.R_base ho0) hb); have n5_ := Aside0.mk (Kd.R_lower (Kd.R_new' (Kd.R_new' (Kd.R_new' (Kd.R_new' (Kd.R_new' ho0 (Kd.R_lt (by (with_reducible repeat (first | apply Kd.R_alloc | apply Kd.R_drewN | apply Kd.R_drew)); exact HO205.out))) (Kd.R_lt (by (with_reducible repeat (first | apply Kd.R_alloc | apply Kd.R_drewN | apply Kd.R_drew)); exact HO211.out))) (Kd.R_lt (by (with_reducible repeat (first | apply Kd.R_alloc | apply Kd.R_drewN | apply Kd.R_drew)); exact HO217.out))) (Kd.R_lt (by (with_reducible repeat (first | apply Kd.R_alloc | apply Kd.R_drewN | apply Kd.R_drew)); exact HO231.out))) (Kd.R_lt (by (with_reducible repeat (first | apply Kd.R_alloc | apply Kd.R_drewN | apply Kd.R_drew)); exact HO234.out))) (below_size (by repeat (first | (with_reducible first | exact HB.out | apply below_alloc | apply pw_below_drewN | apply below_drew1 | refine below_set ?_ GE201.out) | exact HB.out)))); have n6_ := Aside0.mk (blk_below (g := gb201) (o := .cells #[.int .u8 a1_0, .int .u8 a1_1] 41 (0, 0)) (by (with_reducible repeat (first | refine blk_drewN ?_ _ | refine blk_drew ?_ | refine blk_alloc ?_ _)); exact BK201.out) hb); have n7_ := Aside0.mk (below_step (by repeat (first | (with_reducible first | exact HB.out | apply below_alloc | apply pw_below_drewN | apply below_drew1 | refine below_set ?_ GE201.out) | exact HB.out)) hb); clear HO205; clear HO211; clear HO217; clear HO231; clear HO234; clear BK201; clear HB; have HO205 := n0_; have HO211 := n1_; have HO217 := n2_; have HO231 := n3_; have HO234 := n4_; have HO237 := n5_; have BK201 := n6_; have HB := n7_; clear n0_ n1_ n2_ n3_ n4_ n5_ n6_ n7_; (try clear hb); (try clear hb2); (try clear hk); (try clear hi); (try clear ho0); obtain ⟨Ao61, co61, eo61⟩ := Kd.R_slice HO237.out; subst eo61; obtain ⟨Ao62, co62, eo62⟩ := Kd.R_slice HO211.out; subst eo62) | ((with_reducible refine gate_callee (f := 14) rfl ?_); refine goesL_ (some 71) rfl rfl Try.func14 (by kernel_rfl) rfl #[.slice Ao61 t235.length co61, .slice Ao62 t209.length co62] rfl (by (try simp only [List.map_toArray, List.map_cons, List.map_nil]); first | done | rfl | (simp only [List.length_drop, List.length_take]; rfl)) ?_; (with_reducible refine (r11_Same.calls k _ _ t235 _ _ t209 true _ ?side1 ?side2 ?side3 ?side4 A53.out).mono ?_); (case side1 => repeat (first | exact (Kd.R_reads' HO237.out).2.2 | (with_reducible refine Kd.C_alloc ?_ _) | (with_reducible refine Kd.C_drewN ?_ _) | (with_reducible refine Kd.C_drew ?_))); (case side2 => exact (Kd.R_reads' HO237.out).2.1); (case side3 => repeat (first | exact (Kd.R_reads' HO211.out).2.2 | (with_reducible refine Kd.C_alloc ?_ _) | (with_reducible refine Kd.C_drewN ?_ _) | (with_reducible refine Kd.C_drew ?_))); (case side4 => exact (Kd.R_reads' HO211.out).2.1); rintro e w' ⟨rfl, ⟨nd, rfl⟩⟩; refine ⟨_, rfl, ?_⟩; obtain ⟨Ao63, co63, eo63⟩ := Kd.R_slice HO234.out; subst eo63) | (go_at_call 15; (with_reducible refine (span_Norm.calls _ _ y232 t239 _ ?side1 ?side2 A55.out).mono ?_); (case side1 => repeat (first | exact (Kd.R_reads' HO234.out).2.2 | (with_reducible refine Kd.C_alloc ?_ _) | (with_reducible refine Kd.C_drewN ?_ _) | (with_reducible refine Kd.C_drew ?_))); (case side2 => exact (Kd.R_reads' HO234.out).2.1); rintro e w64 ⟨v240, rfl, ho0, hb⟩; have n0_ := Aside0.mk (Kd.R_elder' (by (with_reducible repeat (first | apply Kd.R_alloc | apply Kd.R_drewN | apply Kd.R_drew)); exact HO205.out) (Kd.R_base ho0) hb); have n1_ := Aside0.mk (Kd.R_elder' (by (with_reducible repeat (first | apply Kd.R_alloc | apply Kd.R_drewN | apply Kd.R_drew)); exact HO211.out) (Kd.R_base ho0) hb); have n2_ := Aside0.mk (Kd.R_elder' (by (with_reducible repeat (first | apply Kd.R_alloc | apply Kd.R_drewN | apply Kd.R_drew)); exact HO217.out) (Kd.R_base ho0) hb); have n3_ := Aside0.mk (Kd.R_elder' (by (with_reducible repeat (first | apply Kd.R_alloc | apply Kd.R_drewN | apply Kd.R_drew)); exact HO231.out) (Kd.R_base ho0) hb); have n4_ := Aside0.mk (Kd.R_elder' (by (with_reducible repeat (first | apply Kd.R_alloc | apply Kd.R_drewN | apply Kd.R_drew)); exact HO234.out) (Kd.R_base ho0) hb); have n5_ := Aside0.mk (Kd.R_elder' (by (with_reducible repeat (first | apply Kd.R_alloc | apply Kd.R_drewN | apply Kd.R_drew)); exact HO237.out) (Kd.R_base ho0) hb); have n6_ := Aside0.mk (Kd.R_lower (Kd.R_new' (Kd.R_new' (Kd.R_new' (Kd.R_new' (Kd.R_new' (Kd.R_new' ho0 (Kd.R_lt (by (with_reducible repeat (first | apply Kd.R_alloc | apply Kd.R_drewN | apply Kd.R_drew)); exact HO205.out))) (Kd.R_lt (by (with_reducible repeat (first | apply Kd.R_alloc | apply Kd.R_drewN | apply Kd.R_drew)); exact HO211.out))) (Kd.R_lt (by (with_reducible repeat (first | apply Kd.R_alloc | apply Kd.R_drewN | apply Kd.R_drew)); exact HO217.out))) (Kd.R_lt (by (with_reducible repeat (first | apply Kd.R_alloc | apply Kd.R_drewN | apply Kd.R_drew)); exact HO231.out))) (Kd.R_lt (by (with_reducible repeat (first | apply Kd.R_alloc | apply Kd.R_drewN | apply Kd.R_drew)); exact HO234.out))) (Kd.R_lt (by (with_reducible repeat (first | apply Kd.R_alloc | apply Kd.R_drewN | apply Kd.R_drew)); exact HO237.out))) (below_size (by repeat (first | (with_reducible first | exact HB.out | apply below_alloc | apply pw_below_drewN | apply below_drew1 | refine below_set ?_ GE201.out) | exact HB.out)))); have n7_ := Aside0.mk (blk_below (g := gb201) (o := .cells #[.int .u8 a1_0, .int .u8 a1_1] 41 (0, 0)) (by (with_reducible repeat (first | refine blk_drewN ?_ _ | refine blk_drew ?_ | refine blk_alloc ?_ _)); exact BK201.out) hb); have n8_ := Aside0.mk (below_step (by repeat (first | (with_reducible first | exact HB.out | apply below_alloc | apply pw_below_drewN | apply below_drew1 | refine below_set ?_ GE201.out) | exact HB.out)) hb); clear HO205; clear HO211; clear HO217; clear HO231; clear HO234; clear HO237; clear BK201; clear HB; have HO205 := n0_; have HO211 := n1_; have HO217 := n2_; have HO231 := n3_; have HO234 := n4_; have HO237 := n5_; have HO241 := n6_; have BK201 := n7_; have HB := n8_; clear n0_ n1_ n2_ n3_ n4_ n5_ n6_ n7_ n8_; (try clear hb); (try clear hb2); (try clear hk); (try clear hi); (try clear ho0); obtain ⟨Ao65, co65, eo65⟩ := Kd.R_slice HO241.out; subst eo65) | (go_at_call 14; (with_reducible refine (r11_Same.calls k _ _ t239 _ _ t209 true _ ?side1 ?side2 ?side3 ?side4 A56.out).mono ?_); (case side1 => repeat (first | exact (Kd.R_reads' HO241.out).2.2 | (with_reducible refine Kd.C_alloc ?_ _) | (with_reducible refine Kd.C_drewN ?_ _) | (with_reducible refine Kd.C_drew ?_))); (case side2 => exact (Kd.R_reads' HO241.out).2.1); (case side3 => repeat (first | exact (Kd.R_reads' HO211.out).2.2 | (with_reducible refine Kd.C_alloc ?_ _) | (with_reducible refine Kd.C_drewN ?_ _) | (with_reducible refine Kd.C_drew ?_))); (case side4 => exact (Kd.R_reads' HO211.out).2.1); rintro e w' ⟨rfl, ⟨nd, rfl⟩⟩) | (go_at_call 17; (refine (span_Union.calls _ _ t203 _ _ ([] : List (S24)) t243 _ ?side1 ?side2 ?side3 ?side4 A58.out).mono ?_); (case side1 => repeat (first | exact (Kd.R_reads' HO205.out).2.2 | (with_reducible refine Kd.C_alloc ?_ _) | (with_reducible refine Kd.C_drewN ?_ _) | (with_reducible refine Kd.C_drew ?_))); (case side2 => exact (Kd.R_reads' HO205.out).2.1); (case side3 => exact Kd.C_nil _ _); (case side4 => exact Nat.le_refl _); rintro e w66 ⟨v244, rfl, ho0, hb⟩; have n0_ := Aside0.mk (Kd.R_elder' (by (with_reducible repeat (first | apply Kd.R_alloc | apply Kd.R_drewN | apply Kd.R_drew)); exact HO205.out) (Kd.R_base ho0) hb); have n1_ := Aside0.mk (Kd.R_elder' (by (with_reducible repeat (first | apply Kd.R_alloc | apply Kd.R_drewN | apply Kd.R_drew)); exact HO211.out) (Kd.R_base ho0) hb); have n2_ := Aside0.mk (Kd.R_elder' (by (with_reducible repeat (first | apply Kd.R_alloc | apply Kd.R_drewN | apply Kd.R_drew)); exact HO217.out) (Kd.R_base ho0) hb); have n3_ := Aside0.mk (Kd.R_elder' (by (with_reducible repeat (first | apply Kd.R_alloc | apply Kd.R_drewN | apply Kd.R_drew)); exact HO231.out) (Kd.R_base ho0) hb); have n4_ := Aside0.mk (Kd.R_elder' (by (with_reducible repeat (first | apply Kd.R_alloc | apply Kd.R_drewN | apply Kd.R_drew)); exact HO234.out) (Kd.R_base ho0) hb); have n5_ := Aside0.mk (Kd.R_elder' (by (with_reducible repeat (first | apply Kd.R_alloc | apply Kd.R_drewN | apply Kd.R_drew)); exact HO237.out) (Kd.R_base ho0) hb); have n6_ := Aside0.mk (Kd.R_elder' (by (with_reducible repeat (first | apply Kd.R_alloc | apply Kd.R_drewN | apply Kd.R_drew)); exact HO241.out) (Kd.R_base ho0) hb); have n7_ := Aside0.mk (Kd.R_lower (Kd.R_new' (Kd.R_new' (Kd.R_new' (Kd.R_new' (Kd.R_new' (Kd.R_new' (Kd.R_new' ho0 (Kd.R_lt (by (with_reducible repeat (first | apply Kd.R_alloc | apply Kd.R_drewN | apply Kd.R_drew)); exact HO205.out))) (Kd.R_lt (by (with_reducible repeat (first | apply Kd.R_alloc | apply Kd.R_drewN | apply Kd.R_drew)); exact HO211.out))) (Kd.R_lt (by (with_reducible repeat (first | apply Kd.R_alloc | apply Kd.R_drewN | apply Kd.R_drew)); exact HO217.out))) (Kd.R_lt (by (with_reducible repeat (first | apply Kd.R_alloc | apply Kd.R_drewN | apply Kd.R_drew)); exact HO231.out))) (Kd.R_lt (by (with_reducible repeat (first | apply Kd.R_alloc | apply Kd.R_drewN | apply Kd.R_drew)); exact HO234.out))) (Kd.R_lt (by (with_reducible repeat (first | apply Kd.R_alloc | apply Kd.R_drewN | apply Kd.R_drew)); exact HO237.out))) (Kd.R_lt (by (with_reducible repeat (first | apply Kd.R_alloc | apply Kd.R_drewN | apply Kd.R_drew)); exact HO241.out))) (below_size (by repeat (first | (with_reducible first | exact HB.out | apply below_alloc | apply pw_below_drewN | apply below_drew1 | refine below_set ?_ GE201.out) | exact HB.out)))); have n8_ := Aside0.mk (blk_below (g := gb201) (o := .cells #[.int .u8 a1_0, .int .u8 a1_1] 41 (0, 0)) (by (with_reducible repeat (first | refine blk_drewN ?_ _ | refine blk_drew ?_ | refine blk_alloc ?_ _)); exact BK201.out) hb); have n9_ := Aside0.mk (below_step (by repeat (first | (with_reducible first | exact HB.out | apply below_alloc | apply pw_below_drewN | apply below_drew1 | refine below_set ?_ GE201.out) | exact HB.out)) hb); clear HO205; clear HO211; clear HO217; clear HO231; clear HO234; clear HO237; clear HO241; clear BK201; clear HB; have HO205 := n0_; have HO211 := n1_; have HO217 := n2_; have HO231 := n3_; have HO234 := n4_; have HO237 := n5_; have HO241 := n6_; have HO245 := n7_; have BK201 := n8_; have HB := n9_; clear n0_ n1_ n2_ n3_ n4_ n5_ n6_ n7_ n8_ n9_; (try clear hb); (try clear hb2); (try clear hk); (try clear hi); (try clear ho0); obtain ⟨Ao67, co67, eo67⟩ := Kd.R_slice HO245.out; subst eo67) | (go_at_call 14; (with_reducible refine (r11_Same.calls k _ _ t243 _ _ t209 t246 _ ?side1 ?side2 ?side3 ?side4 A59.out).mono ?_); (case side1 => repeat (first | exact (Kd.R_reads' HO245.out).2.2 | (with_reducible refine Kd.C_alloc ?_ _) | (with_reducible refine Kd.C_drewN ?_ _) | (with_reducible refine Kd.C_drew ?_))); (case side2 => exact (Kd.R_reads' HO245.out).2.1); (case side3 => repeat (first | exact (Kd.R_reads' HO211.out).2.2 | (with_reducible refine Kd.C_alloc ?_ _) | (with_reducible refine Kd.C_drewN ?_ _) | (with_reducible refine Kd.C_drew ?_))); (case side4 => exact (Kd.R_reads' HO211.out).2.1); rintro e w' ⟨rfl, ⟨nd, rfl⟩⟩))
              go_meet
              case rel => exact ⟨_, (!t246), (by first | rfl | (simp; done) | (simp [*]; done)), H', ⟨by first | omega | exact Nat.le_refl _⟩, ⟨by (with_reducible repeat (first | apply Kd.R_alloc | apply Kd.R_drewN | apply Kd.R_drew)); exact Kd.R_mono HO205.out (fun _ hk => hk.1.1.1.1.1)⟩, ⟨by (with_reducible repeat (first | apply Kd.R_alloc | apply Kd.R_drewN | apply Kd.R_drew)); exact Kd.R_mono HO211.out (fun _ hk => hk.1.1.1.1.1)⟩, ⟨by (with_reducible repeat (first | refine blk_drewN ?_ _ | refine blk_drew ?_ | refine blk_alloc ?_ _)); exact BK201.out⟩, ⟨by repeat (first | (with_reducible first | exact HB.out | apply below_alloc | apply pw_below_drewN | apply below_drew1 | refine below_set ?_ GE201.out) | exact HB.out)⟩⟩
             ·replace c57 := Bool.eq_false_iff.mpr c57
              subst c57
              have H1 : (l11_SpanOrder.j0 k a2 t202 t203 t209 ji20 true) = some r := by rw [if_neg (show ¬ (false = true) by decide)] at H; exact H
              clear H
              have H := H1
              clear H1
              have H' := Aside0.mk H
              clear H
              go_wp2_with (first | ((with_reducible refine gate_callee (f := 15) rfl ?_); refine goesL_ (some 69) rfl rfl Try.func15 (by kernel_rfl) rfl #[.slice (some ⟨go24, 0, none⟩) y221.length co24] rfl (by (try simp only [List.map_toArray, List.map_cons, List.map_nil]); first | done | (rw [show y221.length = y215.length from (Kd.R_reads' HO217.out).1.symm] <;> rfl) | rfl | (simp only [List.length_drop, List.length_take]; rfl)) ?_; (with_reducible refine (span_Norm.calls _ _ y221 t235 _ ?side1 ?side2 A52.out).mono ?_); (case side1 => repeat (first | exact (Kd.R_reads' HO217.out).2.2 | (with_reducible refine Kd.C_alloc ?_ _) | (with_reducible refine Kd.C_drewN ?_ _) | (with_reducible refine Kd.C_drew ?_))); (case side2 => rw [show y221.length = y215.length from (Kd.R_reads' HO217.out).1.symm]; exact (Kd.R_reads' HO217.out).2.1); rintro e w68 ⟨v236, rfl, ho0, hb⟩; refine ⟨_, rfl, ?_⟩; have n0_ := Aside0.mk (Kd.R_elder' (by (with_reducible repeat (first | apply Kd.R_alloc | apply Kd.R_drewN | apply Kd.R_drew)); exact HO205.out) (Kd.R_base ho0) hb); have n1_ := Aside0.mk (Kd.R_elder' (by (with_reducible repeat (first | apply Kd.R_alloc | apply Kd.R_drewN | apply Kd.R_drew)); exact HO211.out) (Kd.R_base ho0) hb); have n2_ := Aside0.mk (Kd.R_elder' (by (with_reducible repeat (first | apply Kd.R_alloc | apply Kd.R_drewN | apply Kd.R_drew)); exact HO217.out) (Kd.R_base ho0) hb); have n3_ := Aside0.mk (Kd.R_elder' (by (with_reducible repeat (first | apply Kd.R_alloc | apply Kd.R_drewN | apply Kd.R_drew)); exact HO231.out) (Kd.R_base ho0) hb); have n4_ := Aside0.mk (Kd.R_elder' (by (with_reducible repeat (first | apply Kd.R_alloc | apply Kd.R_drewN | apply Kd.R_drew)); exact HO234.out) (Kd.R_base ho0) hb); have n5_ := Aside0.mk (Kd.R_lower (Kd.R_new' (Kd.R_new' (Kd.R_new' (Kd.R_new' (Kd.R_new' ho0 (Kd.R_lt (by (with_reducible repeat (first | apply Kd.R_alloc | apply Kd.R_drewN | apply Kd.R_drew)); exact HO205.out))) (Kd.R_lt (by (with_reducible repeat (first | apply Kd.R_alloc | apply Kd.R_drewN | apply Kd.R_drew)); exact HO211.out))) (Kd.R_lt (by (with_reducible repeat (first | apply Kd.R_alloc | apply Kd.R_drewN | apply Kd.R_drew)); exact HO217.out))) (Kd.R_lt (by (with_reducible repeat (first | apply Kd.R_alloc | apply Kd.R_drewN | apply Kd.R_drew)); exact HO231.out))) (Kd.R_lt (by (with_reducible repeat (first | apply Kd.R_alloc | apply Kd.R_drewN | apply Kd.R_drew)); exact HO234.out))) (below_size (by repeat (first | (with_reducible first | exact HB.out | apply below_alloc | apply pw_below_drewN | apply below_drew1 | refine below_set ?_ GE201.out) | exact HB.out)))); have n6_ := Aside0.mk (blk_below (g := gb201) (o := .cells #[.int .u8 a1_0, .int .u8 a1_1] 41 (0, 0)) (by (with_reducible repeat (first | refine blk_drewN ?_ _ | refine blk_drew ?_ | refine blk_alloc ?_ _)); exact BK201.out) hb); have n7_ := Aside0.mk (below_step (by repeat (first | (with_reducible first | exact HB.out | apply below_alloc | apply pw_below_drewN | apply below_drew1 | refine below_set ?_ GE201.out) | exact HB.out)) hb); clear HO205; clear HO211; clear HO217; clear HO231; clear HO234; clear BK201; clear HB; have HO205 := n0_; have HO211 := n1_; have HO217 := n2_; have HO231 := n3_; have HO234 := n4_; have HO237 := n5_; have BK201 := n6_; have HB := n7_; clear n0_ n1_ n2_ n3_ n4_ n5_ n6_ n7_; (try clear hb); (try clear hb2); (try clear hk); (try clear hi); (try clear ho0); obtain ⟨Ao69, co69, eo69⟩ := Kd.R_slice HO237.out; subst eo69; obtain ⟨Ao70, co70, eo70⟩ := Kd.R_slice HO211.out; subst eo70) | ((with_reducible refine gate_callee (f := 14) rfl ?_); refine goesL_ (some 71) rfl rfl Try.func14 (by kernel_rfl) rfl #[.slice Ao69 t235.length co69, .slice Ao70 t209.length co70] rfl (by (try simp only [List.map_toArray, List.map_cons, List.map_nil]); first | done | rfl | (simp only [List.length_drop, List.length_take]; rfl)) ?_; (with_reducible refine (r11_Same.calls k _ _ t235 _ _ t209 true _ ?side1 ?side2 ?side3 ?side4 A53.out).mono ?_); (case side1 => repeat (first | exact (Kd.R_reads' HO237.out).2.2 | (with_reducible refine Kd.C_alloc ?_ _) | (with_reducible refine Kd.C_drewN ?_ _) | (with_reducible refine Kd.C_drew ?_))); (case side2 => exact (Kd.R_reads' HO237.out).2.1); (case side3 => repeat (first | exact (Kd.R_reads' HO211.out).2.2 | (with_reducible refine Kd.C_alloc ?_ _) | (with_reducible refine Kd.C_drewN ?_ _) | (with_reducible refine Kd.C_drew ?_))); (case side4 => exact (Kd.R_reads' HO211.out).2.1); rintro e w' ⟨rfl, ⟨nd, rfl⟩⟩; refine ⟨_, rfl, ?_⟩; obtain ⟨Ao71, co71, eo71⟩ := Kd.R_slice HO234.out; subst eo71) | (go_at_call 15; (with_reducible refine (span_Norm.calls _ _ y232 t239 _ ?side1 ?side2 A55.out).mono ?_); (case side1 => repeat (first | exact (Kd.R_reads' HO234.out).2.2 | (with_reducible refine Kd.C_alloc ?_ _) | (with_reducible refine Kd.C_drewN ?_ _) | (with_reducible refine Kd.C_drew ?_))); (case side2 => exact (Kd.R_reads' HO234.out).2.1); rintro e w72 ⟨v240, rfl, ho0, hb⟩; have n0_ := Aside0.mk (Kd.R_elder' (by (with_reducible repeat (first | apply Kd.R_alloc | apply Kd.R_drewN | apply Kd.R_drew)); exact HO205.out) (Kd.R_base ho0) hb); have n1_ := Aside0.mk (Kd.R_elder' (by (with_reducible repeat (first | apply Kd.R_alloc | apply Kd.R_drewN | apply Kd.R_drew)); exact HO211.out) (Kd.R_base ho0) hb); have n2_ := Aside0.mk (Kd.R_elder' (by (with_reducible repeat (first | apply Kd.R_alloc | apply Kd.R_drewN | apply Kd.R_drew)); exact HO217.out) (Kd.R_base ho0) hb); have n3_ := Aside0.mk (Kd.R_elder' (by (with_reducible repeat (first | apply Kd.R_alloc | apply Kd.R_drewN | apply Kd.R_drew)); exact HO231.out) (Kd.R_base ho0) hb); have n4_ := Aside0.mk (Kd.R_elder' (by (with_reducible repeat (first | apply Kd.R_alloc | apply Kd.R_drewN | apply Kd.R_drew)); exact HO234.out) (Kd.R_base ho0) hb); have n5_ := Aside0.mk (Kd.R_elder' (by (with_reducible repeat (first | apply Kd.R_alloc | apply Kd.R_drewN | apply Kd.R_drew)); exact HO237.out) (Kd.R_base ho0) hb); have n6_ := Aside0.mk (Kd.R_lower (Kd.R_new' (Kd.R_new' (Kd.R_new' (Kd.R_new' (Kd.R_new' (Kd.R_new' ho0 (Kd.R_lt (by (with_reducible repeat (first | apply Kd.R_alloc | apply Kd.R_drewN | apply Kd.R_drew)); exact HO205.out))) (Kd.R_lt (by (with_reducible repeat (first | apply Kd.R_alloc | apply Kd.R_drewN | apply Kd.R_drew)); exact HO211.out))) (Kd.R_lt (by (with_reducible repeat (first | apply Kd.R_alloc | apply Kd.R_drewN | apply Kd.R_drew)); exact HO217.out))) (Kd.R_lt (by (with_reducible repeat (first | apply Kd.R_alloc | apply Kd.R_drewN | apply Kd.R_drew)); exact HO231.out))) (Kd.R_lt (by (with_reducible repeat (first | apply Kd.R_alloc | apply Kd.R_drewN | apply Kd.R_drew)); exact HO234.out))) (Kd.R_lt (by (with_reducible repeat (first | apply Kd.R_alloc | apply Kd.R_drewN | apply Kd.R_drew)); exact HO237.out))) (below_size (by repeat (first | (with_reducible first | exact HB.out | apply below_alloc | apply pw_below_drewN | apply below_drew1 | refine below_set ?_ GE201.out) | exact HB.out)))); have n7_ := Aside0.mk (blk_below (g := gb201) (o := .cells #[.int .u8 a1_0, .int .u8 a1_1] 41 (0, 0)) (by (with_reducible repeat (first | refine blk_drewN ?_ _ | refine blk_drew ?_ | refine blk_alloc ?_ _)); exact BK201.out) hb); have n8_ := Aside0.mk (below_step (by repeat (first | (with_reducible first | exact HB.out | apply below_alloc | apply pw_below_drewN | apply below_drew1 | refine below_set ?_ GE201.out) | exact HB.out)) hb); clear HO205; clear HO211; clear HO217; clear HO231; clear HO234; clear HO237; clear BK201; clear HB; have HO205 := n0_; have HO211 := n1_; have HO217 := n2_; have HO231 := n3_; have HO234 := n4_; have HO237 := n5_; have HO241 := n6_; have BK201 := n7_; have HB := n8_; clear n0_ n1_ n2_ n3_ n4_ n5_ n6_ n7_ n8_; (try clear hb); (try clear hb2); (try clear hk); (try clear hi); (try clear ho0); obtain ⟨Ao73, co73, eo73⟩ := Kd.R_slice HO241.out; subst eo73) | (go_at_call 14; (with_reducible refine (r11_Same.calls k _ _ t239 _ _ t209 false _ ?side1 ?side2 ?side3 ?side4 A56.out).mono ?_); (case side1 => repeat (first | exact (Kd.R_reads' HO241.out).2.2 | (with_reducible refine Kd.C_alloc ?_ _) | (with_reducible refine Kd.C_drewN ?_ _) | (with_reducible refine Kd.C_drew ?_))); (case side2 => exact (Kd.R_reads' HO241.out).2.1); (case side3 => repeat (first | exact (Kd.R_reads' HO211.out).2.2 | (with_reducible refine Kd.C_alloc ?_ _) | (with_reducible refine Kd.C_drewN ?_ _) | (with_reducible refine Kd.C_drew ?_))); (case side4 => exact (Kd.R_reads' HO211.out).2.1); rintro e w' ⟨rfl, ⟨nd, rfl⟩⟩))
              go_meet
              case rel => exact ⟨_, (true), (by first | rfl | (simp; done) | (simp [*]; done)), H', ⟨by first | omega | exact Nat.le_refl _⟩, ⟨by (with_reducible repeat (first | apply Kd.R_alloc | apply Kd.R_drewN | apply Kd.R_drew)); exact Kd.R_mono HO205.out (fun _ hk => hk.1.1.1.1)⟩, ⟨by (with_reducible repeat (first | apply Kd.R_alloc | apply Kd.R_drewN | apply Kd.R_drew)); exact Kd.R_mono HO211.out (fun _ hk => hk.1.1.1.1)⟩, ⟨by (with_reducible repeat (first | refine blk_drewN ?_ _ | refine blk_drew ?_ | refine blk_alloc ?_ _)); exact BK201.out⟩, ⟨by repeat (first | (with_reducible first | exact HB.out | apply below_alloc | apply pw_below_drewN | apply below_drew1 | refine below_set ?_ GE201.out) | exact HB.out)⟩⟩
            ·replace c54 := Bool.eq_false_iff.mpr c54
             subst c54
             have H1 : (l11_SpanOrder.j0 k a2 t202 t203 t209 ji20 true) = some r := by rw [if_neg (show ¬ (false = true) by decide)] at H; exact H
             clear H
             have H := H1
             clear H1
             have H' := Aside0.mk H
             clear H
             go_wp2_with (first | ((with_reducible refine gate_callee (f := 15) rfl ?_); refine goesL_ (some 69) rfl rfl Try.func15 (by kernel_rfl) rfl #[.slice (some ⟨go24, 0, none⟩) y221.length co24] rfl (by (try simp only [List.map_toArray, List.map_cons, List.map_nil]); first | done | (rw [show y221.length = y215.length from (Kd.R_reads' HO217.out).1.symm] <;> rfl) | rfl | (simp only [List.length_drop, List.length_take]; rfl)) ?_; (with_reducible refine (span_Norm.calls _ _ y221 t235 _ ?side1 ?side2 A52.out).mono ?_); (case side1 => repeat (first | exact (Kd.R_reads' HO217.out).2.2 | (with_reducible refine Kd.C_alloc ?_ _) | (with_reducible refine Kd.C_drewN ?_ _) | (with_reducible refine Kd.C_drew ?_))); (case side2 => rw [show y221.length = y215.length from (Kd.R_reads' HO217.out).1.symm]; exact (Kd.R_reads' HO217.out).2.1); rintro e w74 ⟨v236, rfl, ho0, hb⟩; refine ⟨_, rfl, ?_⟩; have n0_ := Aside0.mk (Kd.R_elder' (by (with_reducible repeat (first | apply Kd.R_alloc | apply Kd.R_drewN | apply Kd.R_drew)); exact HO205.out) (Kd.R_base ho0) hb); have n1_ := Aside0.mk (Kd.R_elder' (by (with_reducible repeat (first | apply Kd.R_alloc | apply Kd.R_drewN | apply Kd.R_drew)); exact HO211.out) (Kd.R_base ho0) hb); have n2_ := Aside0.mk (Kd.R_elder' (by (with_reducible repeat (first | apply Kd.R_alloc | apply Kd.R_drewN | apply Kd.R_drew)); exact HO217.out) (Kd.R_base ho0) hb); have n3_ := Aside0.mk (Kd.R_elder' (by (with_reducible repeat (first | apply Kd.R_alloc | apply Kd.R_drewN | apply Kd.R_drew)); exact HO231.out) (Kd.R_base ho0) hb); have n4_ := Aside0.mk (Kd.R_elder' (by (with_reducible repeat (first | apply Kd.R_alloc | apply Kd.R_drewN | apply Kd.R_drew)); exact HO234.out) (Kd.R_base ho0) hb); have n5_ := Aside0.mk (Kd.R_lower (Kd.R_new' (Kd.R_new' (Kd.R_new' (Kd.R_new' (Kd.R_new' ho0 (Kd.R_lt (by (with_reducible repeat (first | apply Kd.R_alloc | apply Kd.R_drewN | apply Kd.R_drew)); exact HO205.out))) (Kd.R_lt (by (with_reducible repeat (first | apply Kd.R_alloc | apply Kd.R_drewN | apply Kd.R_drew)); exact HO211.out))) (Kd.R_lt (by (with_reducible repeat (first | apply Kd.R_alloc | apply Kd.R_drewN | apply Kd.R_drew)); exact HO217.out))) (Kd.R_lt (by (with_reducible repeat (first | apply Kd.R_alloc | apply Kd.R_drewN | apply Kd.R_drew)); exact HO231.out))) (Kd.R_lt (by (with_reducible repeat (first | apply Kd.R_alloc | apply Kd.R_drewN | apply Kd.R_drew)); exact HO234.out))) (below_size (by repeat (first | (with_reducible first | exact HB.out | apply below_alloc | apply pw_below_drewN | apply below_drew1 | refine below_set ?_ GE201.out) | exact HB.out)))); have n6_ := Aside0.mk (blk_below (g := gb201) (o := .cells #[.int .u8 a1_0, .int .u8 a1_1] 41 (0, 0)) (by (with_reducible repeat (first | refine blk_drewN ?_ _ | refine blk_drew ?_ | refine blk_alloc ?_ _)); exact BK201.out) hb); have n7_ := Aside0.mk (below_step (by repeat (first | (with_reducible first | exact HB.out | apply below_alloc | apply pw_below_drewN | apply below_drew1 | refine below_set ?_ GE201.out) | exact HB.out)) hb); clear HO205; clear HO211; clear HO217; clear HO231; clear HO234; clear BK201; clear HB; have HO205 := n0_; have HO211 := n1_; have HO217 := n2_; have HO231 := n3_; have HO234 := n4_; have HO237 := n5_; have BK201 := n6_; have HB := n7_; clear n0_ n1_ n2_ n3_ n4_ n5_ n6_ n7_; (try clear hb); (try clear hb2); (try clear hk); (try clear hi); (try clear ho0); obtain ⟨Ao75, co75, eo75⟩ := Kd.R_slice HO237.out; subst eo75; obtain ⟨Ao76, co76, eo76⟩ := Kd.R_slice HO211.out; subst eo76) | ((with_reducible refine gate_callee (f := 14) rfl ?_); refine goesL_ (some 71) rfl rfl Try.func14 (by kernel_rfl) rfl #[.slice Ao75 t235.length co75, .slice Ao76 t209.length co76] rfl (by (try simp only [List.map_toArray, List.map_cons, List.map_nil]); first | done | rfl | (simp only [List.length_drop, List.length_take]; rfl)) ?_; (with_reducible refine (r11_Same.calls k _ _ t235 _ _ t209 false _ ?side1 ?side2 ?side3 ?side4 A53.out).mono ?_); (case side1 => repeat (first | exact (Kd.R_reads' HO237.out).2.2 | (with_reducible refine Kd.C_alloc ?_ _) | (with_reducible refine Kd.C_drewN ?_ _) | (with_reducible refine Kd.C_drew ?_))); (case side2 => exact (Kd.R_reads' HO237.out).2.1); (case side3 => repeat (first | exact (Kd.R_reads' HO211.out).2.2 | (with_reducible refine Kd.C_alloc ?_ _) | (with_reducible refine Kd.C_drewN ?_ _) | (with_reducible refine Kd.C_drew ?_))); (case side4 => exact (Kd.R_reads' HO211.out).2.1); rintro e w' ⟨rfl, ⟨nd, rfl⟩⟩; refine ⟨_, rfl, ?_⟩))
             go_meet
             case rel => exact ⟨_, (true), (by first | rfl | (simp; done) | (simp [*]; done)), H', ⟨by first | omega | exact Nat.le_refl _⟩, ⟨by (with_reducible repeat (first | apply Kd.R_alloc | apply Kd.R_drewN | apply Kd.R_drew)); exact Kd.R_mono HO205.out (fun _ hk => hk.1.1.1)⟩, ⟨by (with_reducible repeat (first | apply Kd.R_alloc | apply Kd.R_drewN | apply Kd.R_drew)); exact Kd.R_mono HO211.out (fun _ hk => hk.1.1.1)⟩, ⟨by (with_reducible repeat (first | refine blk_drewN ?_ _ | refine blk_drew ?_ | refine blk_alloc ?_ _)); exact BK201.out⟩, ⟨by repeat (first | (with_reducible first | exact HB.out | apply below_alloc | apply pw_below_drewN | apply below_drew1 | refine below_set ?_ GE201.out) | exact HB.out)⟩⟩
           case rest =>
            clear HC29
            try clear c1
            try clear c2
            try clear p2
            try clear q2
            try clear hx2
            try clear c5
            try clear c14
            try clear c15
            try clear p22
            try clear q22
            try clear hx22
            try clear c27
            try clear c28
            try clear c54
            try clear c57
            try clear hx228_0
            try clear hx228_1
            try clear p228
            try clear q228
            obtain ⟨kq, x86_28, rfl, HA, HJ28, HO_8, HO_9, BK201, HB⟩ := hcut
            cases kq with
            | zero => exact absurd HA.out (by simp [l11_SpanOrder.j0])
            | succ kj28 =>
             have H := HA.out
             clear HA
             simp only [l11_SpanOrder.j0] at H
             by_cases c77 : x86_28 = true
             ·subst c77
              have H1 : (some false) = some r := by rw [if_pos rfl] at H; exact H
              clear H
              have H := H1
              clear H1
              exact absurd ((Option.some.inj H).trans HLAW.out) (by decide)
             ·replace c77 := Bool.eq_false_iff.mpr c77
              subst c77
              have H1 : (if 0 ≤ ji20 then (if ji20 < (t203.length : Int) then (if a2 < ((rd_T24 t203 ji20).f0) then (l11_SpanOrder.j1 kj28 a2 t202 t203 t209 ji20 true) else (l11_SpanOrder.j1 kj28 a2 t202 t203 t209 ji20 (decide (a2 > ((rd_T24 t203 ji20).f1))))) else (none)) else (none)) = some r := by rw [if_neg (show ¬ (false = true) by decide)] at H; exact H
              clear H
              have H := H1
              clear H1
              have HC78 := Aside0.mk H
              clear H
              go_upto_region 11 with (fail)
              go_cut [102] (fun v102 wc => ∃ (kq : Nat) (x102_77 : Bool), v102 = .bool x102_77 ∧ Aside0 (l11_SpanOrder.j1 kq a2 t202 t203 t209 ji20 x102_77 = some r) ∧ Aside0 (kq ≤ kj28) ∧ Aside0 (Kd.R k24 24 wc w.heap.size (fun k_ => some k_ ≠ (v210 : Value).ownBlock) (.slice (some ad218) t203.length co33) t203) ∧ Aside0 (Kd.R k24 24 wc w.heap.size (fun k_ => some k_ ≠ ((.slice (some ad218) t203.length co33) : Value).ownBlock) v210 t209) ∧ Aside0 (wc.heap[gb201]? = some (.cells #[.int .u8 a1_0, .int .u8 a1_1] 41 (0, 0))) ∧ Aside0 (Below w.heap.size w wc))
              case first =>
               have H := HC78.out
               clear HC78
               by_cases c79 : 0 ≤ ji20
               ·rw [if_pos c79] at H
                have c79b0 : decide (0 ≤ ji20) = true := decide_eq_true c79
                clear c79
                (first | rw [c79b0] | (simp only [i64_w, i32_w]; rw [c79b0]) | skip)
                by_cases c80 : ji20 < (t203.length : Int)
                ·rw [if_pos c80] at H
                 have c80b0 : decide (ji20 < (t203.length : Int)) = true := decide_eq_true c80
                 clear c80
                 by_cases c81 : a2 < ((rd_T24 t203 ji20).f0)
                 ·rw [if_pos c81] at H
                  have c81b0 : decide (a2 < ((rd_T24 t203 ji20).f0)) = true := decide_eq_true c81
                  clear c81
                  have H' := Aside0.mk H
                  clear H
                  have p247 : 0 ≤ (ji20 : Int) := of_decide_eq_true (by first | (with_reducible assumption) | assumption)
                  have q247 : ji20 < (t203.length : Int) := of_decide_eq_true (by first | (with_reducible assumption) | assumption)
                  obtain ⟨ad247, e247, hx247_0, hx247_1⟩ := at_T24 (Kd.R_reads' HO_8.out).2.2 ji20 p247 q247
                  obtain rfl : ad218 = ad247 := (by injection e247)
                  replace p247 := eq_true p247
                  replace q247 := eq_true q247
                  go_wp2
                  go_meet
                  case rel => exact ⟨_, (true), (by first | rfl | (simp; done) | (simp [*]; done)), H', ⟨by have := HJ28.out; first | omega | exact Nat.le_refl _⟩, ⟨by (with_reducible repeat (first | apply Kd.R_alloc | apply Kd.R_drewN | apply Kd.R_drew)); exact HO_8.out⟩, ⟨by (with_reducible repeat (first | apply Kd.R_alloc | apply Kd.R_drewN | apply Kd.R_drew)); exact HO_9.out⟩, ⟨by (with_reducible repeat (first | refine blk_drewN ?_ _ | refine blk_drew ?_ | refine blk_alloc ?_ _)); exact BK201.out⟩, ⟨by repeat (first | (with_reducible first | exact HB.out | apply below_alloc | apply pw_below_drewN | apply below_drew1 | refine below_set ?_ GE201.out) | exact HB.out)⟩⟩
                 ·rw [if_neg c81] at H
                  have c81b0 : decide (a2 < ((rd_T24 t203 ji20).f0)) = false := decide_eq_false c81
                  clear c81
                  have H' := Aside0.mk H
                  clear H
                  have p247 : 0 ≤ (ji20 : Int) := of_decide_eq_true (by first | (with_reducible assumption) | assumption)
                  have q247 : ji20 < (t203.length : Int) := of_decide_eq_true (by first | (with_reducible assumption) | assumption)
                  obtain ⟨ad247, e247, hx247_0, hx247_1⟩ := at_T24 (Kd.R_reads' HO_8.out).2.2 ji20 p247 q247
                  obtain rfl : ad218 = ad247 := (by injection e247)
                  replace p247 := eq_true p247
                  replace q247 := eq_true q247
                  have p248 : 0 ≤ (ji20 : Int) := of_decide_eq_true (by first | (with_reducible assumption) | assumption)
                  have q248 : ji20 < (t203.length : Int) := of_decide_eq_true (by first | (with_reducible assumption) | assumption)
                  obtain ⟨ad248, e248, hx248_0, hx248_1⟩ := at_T24 (Kd.R_reads' HO_8.out).2.2 ji20 p248 q248
                  obtain rfl : ad218 = ad248 := (by injection e248)
                  replace p248 := eq_true p248
                  replace q248 := eq_true q248
                  go_wp2
                  go_meet
                  case rel => exact ⟨_, (decide (a2 > ((rd_T24 t203 ji20).f1))), (by first | rfl | (simp; done) | (simp only [← hji20] <;> (first | rfl | simp)) | (simp [*]; done)), H', ⟨by have := HJ28.out; first | omega | exact Nat.le_refl _⟩, ⟨by (with_reducible repeat (first | apply Kd.R_alloc | apply Kd.R_drewN | apply Kd.R_drew)); exact HO_8.out⟩, ⟨by (with_reducible repeat (first | apply Kd.R_alloc | apply Kd.R_drewN | apply Kd.R_drew)); exact HO_9.out⟩, ⟨by (with_reducible repeat (first | refine blk_drewN ?_ _ | refine blk_drew ?_ | refine blk_alloc ?_ _)); exact BK201.out⟩, ⟨by repeat (first | (with_reducible first | exact HB.out | apply below_alloc | apply pw_below_drewN | apply below_drew1 | refine below_set ?_ GE201.out) | exact HB.out)⟩⟩
                ·rw [if_neg c80] at H
                 exact absurd H (by simp)
               ·rw [if_neg c79] at H
                exact absurd H (by simp)
              case rest =>
               clear HC78
               try clear c1
               try clear c2
               try clear p2
               try clear q2
               try clear hx2
               try clear c5
               try clear c7
               try clear c8
               try clear c14
               try clear c15
               try clear p22
               try clear q22
               try clear hx22
               try clear p24
               try clear q24
               try clear hx24
               try clear c27
               try clear c28
               try clear c54
               try clear c57
               try clear c77
               try clear c79
               try clear c79b0
               try clear c80
               try clear c80b0
               try clear c81
               try clear c81b0
               try clear hx228_0
               try clear hx228_1
               try clear hx247_0
               try clear hx247_1
               try clear hx248_0
               try clear hx248_1
               try clear p2
               try clear p22
               try clear p228
               try clear p247
               try clear p248
               try clear q2
               try clear q22
               try clear q228
               try clear q247
               try clear q248
               obtain ⟨kq, x102_77, rfl, HA, HJ77, HO_8, HO_9, BK201, HB⟩ := hcut
               cases kq with
               | zero => exact absurd HA.out (by simp [l11_SpanOrder.j1])
               | succ kj77 =>
                have H := HA.out
                clear HA
                simp only [l11_SpanOrder.j1] at H
                by_cases c82 : x102_77 = true
                ·subst c82
                 have H1 : (some t202) = some r := by rw [if_pos rfl] at H; exact H
                 clear H
                 have H := H1
                 clear H1
                 clear HLAW
                 obtain rfl := Option.some.inj H
                 go_wp2
                 go_ret
                 exact ⟨by first | rfl | (simp [errW_none, errW_some] <;> rfl) | (simp only [← hji17, ← hji20]; first | rfl | (simp [errW_none, errW_some] <;> rfl)) | (simp [*, errW_none, errW_some] <;> rfl) | (exfalso; simp_all only [aside0_iff, Option.some.injEq, reduceCtorEq]), by repeat (first | (with_reducible first | exact HB.out | apply below_alloc | apply pw_below_drewN | apply below_drew1 | refine below_set ?_ GE201.out) | exact HB.out)⟩
                ·replace c82 := Bool.eq_false_iff.mpr c82
                 subst c82
                 have H1 : ((some (([] : List (S24)) : List (S24))).bind fun y249 => (if y249.length + t203.length < 8796093022208 then ((some (y249 ++ t203 : List (S24))).bind fun y252 => (if 0 ≤ ji20 then (if ji20 < (t203.length : Int) then (if ji20 < (y252.length : Int) then ((some (y252.set (ji20 : Int).toNat (⟨(rd_T24 t203 ji20).f0, a2⟩ : S24) : List (S24))).bind fun y256 => ((some (([(⟨a2, (rd_T24 t203 ji20).f1⟩ : S24)] : List (S24)) : List (S24))).bind fun y258 => (if y256.length + y258.length < 8796093022208 then ((span_Norm.f (y256 ++ y258)).bind fun t264 => ((r11_Same.f kj77 t264 t209).bind fun t267 => (if t267 = true then (some t202) else (some false)))) else (none)))) else (none)) else (none)) else (none))) else (none))) = some r := by rw [if_neg (show ¬ (false = true) by decide)] at H; exact H
                 clear H
                 have H := H1
                 clear H1
                 obtain ⟨y249, hy249⟩ : ∃ y_ : List (S24), y_ = (([] : List (S24))) := ⟨_, rfl⟩
                 replace H : (if y249.length + t203.length < 8796093022208 then ((some (y249 ++ t203 : List (S24))).bind fun y252 => (if 0 ≤ ji20 then (if ji20 < (t203.length : Int) then (if ji20 < (y252.length : Int) then ((some (y252.set (ji20 : Int).toNat (⟨(rd_T24 t203 ji20).f0, a2⟩ : S24) : List (S24))).bind fun y256 => ((some (([(⟨a2, (rd_T24 t203 ji20).f1⟩ : S24)] : List (S24)) : List (S24))).bind fun y258 => (if y256.length + y258.length < 8796093022208 then ((span_Norm.f (y256 ++ y258)).bind fun t264 => ((r11_Same.f kj77 t264 t209).bind fun t267 => (if t267 = true then (some t202) else (some false)))) else (none)))) else (none)) else (none)) else (none))) else (none)) = some r := by first | (rw [hy249]; with_reducible exact H) | (have H2_ := (Option.bind_some _ _).symm.trans H; rw [hy249]; with_reducible exact H2_) | (have H2_ := (Option.bind_some _ _).symm.trans H; with_reducible exact H2_) | with_reducible exact H | (rw [hy249]; exact H) | exact H
                 have Ny249 := Aside0.mk hy249
                 clear hy249
                 by_cases c83 : y249.length + t203.length < 8796093022208
                 ·rw [if_pos c83] at H
                  have LMc83 := Aside0.mk c83
                  clear c83
                  obtain ⟨y252, hy252⟩ : ∃ y_ : List (S24), y_ = (y249 ++ t203) := ⟨_, rfl⟩
                  replace H : (if 0 ≤ ji20 then (if ji20 < (t203.length : Int) then (if ji20 < (y252.length : Int) then ((some (y252.set (ji20 : Int).toNat (⟨(rd_T24 t203 ji20).f0, a2⟩ : S24) : List (S24))).bind fun y256 => ((some (([(⟨a2, (rd_T24 t203 ji20).f1⟩ : S24)] : List (S24)) : List (S24))).bind fun y258 => (if y256.length + y258.length < 8796093022208 then ((span_Norm.f (y256 ++ y258)).bind fun t264 => ((r11_Same.f kj77 t264 t209).bind fun t267 => (if t267 = true then (some t202) else (some false)))) else (none)))) else (none)) else (none)) else (none)) = some r := by first | (rw [hy252]; with_reducible exact H) | (have H2_ := (Option.bind_some _ _).symm.trans H; rw [hy252]; with_reducible exact H2_) | (have H2_ := (Option.bind_some _ _).symm.trans H; with_reducible exact H2_) | with_reducible exact H | (rw [hy252]; exact H) | exact H
                  have Ny252 := Aside0.mk hy252
                  clear hy252
                  by_cases c84 : 0 ≤ ji20
                  ·rw [if_pos c84] at H
                   have c84b0 : decide (0 ≤ ji20) = true := decide_eq_true c84
                   clear c84
                   by_cases c85 : ji20 < (t203.length : Int)
                   ·rw [if_pos c85] at H
                    have c85b0 : decide (ji20 < (t203.length : Int)) = true := decide_eq_true c85
                    clear c85
                    by_cases c86 : ji20 < (y252.length : Int)
                    ·rw [if_pos c86] at H
                     have c86b0 : decide (ji20 < (y252.length : Int)) = true := decide_eq_true c86
                     clear c86
                     obtain ⟨y256, hy256⟩ : ∃ y_ : List (S24), y_ = (y252.set (ji20 : Int).toNat (⟨(rd_T24 t203 ji20).f0, a2⟩ : S24)) := ⟨_, rfl⟩
                     replace H : ((some (([(⟨a2, (rd_T24 t203 ji20).f1⟩ : S24)] : List (S24)) : List (S24))).bind fun y258 => (if y256.length + y258.length < 8796093022208 then ((span_Norm.f (y256 ++ y258)).bind fun t264 => ((r11_Same.f kj77 t264 t209).bind fun t267 => (if t267 = true then (some t202) else (some false)))) else (none))) = some r := by first | (rw [hy256]; with_reducible exact H) | (have H2_ := (Option.bind_some _ _).symm.trans H; rw [hy256]; with_reducible exact H2_) | (have H2_ := (Option.bind_some _ _).symm.trans H; with_reducible exact H2_) | with_reducible exact H | (rw [hy256]; exact H) | exact H
                     have Ny256 := Aside0.mk hy256
                     clear hy256
                     obtain ⟨y258, hy258⟩ : ∃ y_ : List (S24), y_ = (([(⟨a2, (rd_T24 t203 ji20).f1⟩ : S24)] : List (S24))) := ⟨_, rfl⟩
                     replace H : (if y256.length + y258.length < 8796093022208 then ((span_Norm.f (y256 ++ y258)).bind fun t264 => ((r11_Same.f kj77 t264 t209).bind fun t267 => (if t267 = true then (some t202) else (some false)))) else (none)) = some r := by first | (rw [hy258]; with_reducible exact H) | (have H2_ := (Option.bind_some _ _).symm.trans H; rw [hy258]; with_reducible exact H2_) | (have H2_ := (Option.bind_some _ _).symm.trans H; with_reducible exact H2_) | with_reducible exact H | (rw [hy258]; exact H) | exact H
                     have Ny258 := Aside0.mk hy258
                     clear hy258
                     by_cases c88 : y256.length + y258.length < 8796093022208
                     ·rw [if_pos c88] at H
                      have LMc88 := Aside0.mk c88
                      clear c88
                      obtain ⟨y261, hy261⟩ : ∃ y_ : List (S24), y_ = (y256 ++ y258) := ⟨_, rfl⟩
                      replace H : ((span_Norm.f y261).bind fun t264 => ((r11_Same.f kj77 t264 t209).bind fun t267 => (if t267 = true then (some t202) else (some false)))) = some r := by first | (rw [hy261]; with_reducible exact H) | (have H2_ := (Option.bind_some _ _).symm.trans H; rw [hy261]; with_reducible exact H2_) | (have H2_ := (Option.bind_some _ _).symm.trans H; with_reducible exact H2_) | with_reducible exact H | (rw [hy261]; exact H) | exact H
                      have Ny261 := Aside0.mk hy261
                      clear hy261
                      replace H := Option.bind_eq_some_iff.mp H
                      obtain ⟨t264, A890, H⟩ := H
                      replace H : ((r11_Same.f kj77 t264 t209).bind fun t267 => (if t267 = true then (some t202) else (some false))) = some r := H
                      have A89 := Aside0.mk A890
                      clear A890
                      replace H := Option.bind_eq_some_iff.mp H
                      obtain ⟨t267, A900, H⟩ := H
                      replace H : (if t267 = true then (some t202) else (some false)) = some r := H
                      have A90 := Aside0.mk A900
                      clear A900
                      by_cases c91 : t267 = true
                      ·subst c91
                       have H1 : (some t202) = some r := by rw [if_pos rfl] at H; exact H
                       clear H
                       have H := H1
                       clear H1
                       clear HLAW
                       obtain rfl := Option.some.inj H
                       go_wp2_with (first | ((with_reducible refine gate_dst (N := 104) rfl ?_); refine Kd.R_lit k24 _ 24 ?hg (N := 104) ?hd (xs := ([] : List (S24))) (inner := []) (ok := fun _ => True) (okp := fun _ => True) ?hr ?hp (fun _ hk => hk) trivial (Below.refl _ _) (Nat.le_refl _) (by simp) ?_; (case hd => rfl); (case hg => rfl); (case hr => first | (go_simp; done) | (go_simp; rfl)); (case hp => exact (Reps.none _ _)); intro v250 w92 ho93 hb hg_ hnew_; clear hg_ hnew_; (first | rw [← Ny249.out] at ho93 | (simp only [Int.reduceToNat] at ho93; rw [← Ny249.out] at ho93)); have n0_ := Aside0.mk (Kd.R_elder' (by (with_reducible repeat (first | apply Kd.R_alloc | apply Kd.R_drewN | apply Kd.R_drew)); exact HO_8.out) (Kd.R_base ho93) hb); have n1_ := Aside0.mk (Kd.R_elder' (by (with_reducible repeat (first | apply Kd.R_alloc | apply Kd.R_drewN | apply Kd.R_drew)); exact HO_9.out) (Kd.R_base ho93) hb); have n2_ := Aside0.mk (Kd.R_lower (Kd.R_new' (Kd.R_new' ho93 (Kd.R_lt (by (with_reducible repeat (first | apply Kd.R_alloc | apply Kd.R_drewN | apply Kd.R_drew)); exact HO_8.out))) (Kd.R_lt (by (with_reducible repeat (first | apply Kd.R_alloc | apply Kd.R_drewN | apply Kd.R_drew)); exact HO_9.out))) (below_size (by repeat (first | (with_reducible first | exact HB.out | apply below_alloc | apply pw_below_drewN | apply below_drew1 | refine below_set ?_ GE201.out) | exact HB.out)))); have n3_ := Aside0.mk (blk_below (g := gb201) (o := .cells #[.int .u8 a1_0, .int .u8 a1_1] 41 (0, 0)) (by (with_reducible repeat (first | refine blk_drewN ?_ _ | refine blk_drew ?_ | refine blk_alloc ?_ _)); exact BK201.out) hb); have n4_ := Aside0.mk (below_step (by repeat (first | (with_reducible first | exact HB.out | apply below_alloc | apply pw_below_drewN | apply below_drew1 | refine below_set ?_ GE201.out) | exact HB.out)) hb); clear HO_8; clear HO_9; clear BK201; clear HB; have HO_8 := n0_; have HO_9 := n1_; have HO251 := n2_; have BK201 := n3_; have HB := n4_; clear n0_ n1_ n2_ n3_ n4_; clear hb ho93) | ((with_reducible refine gate_builtin (b := .append) (xs := #[.tmp 104, .tmp 105]) rfl ?_); at_builtin; refine Kd.R_append_rows k24 (w0 := w) w.heap.size rfl (.tmp 104) (.tmp 105) 22 24 (.agg #[(.int .i64 0), (.int .i64 0)]) 16 rfl Try.underlying22 info24 rfl (by decide) (by omega) v250 y249 t203 _ _ _ (fun k_ => some k_ ≠ (.slice (some ad218) t203.length co33 : Value).ownBlock ∧ some k_ ≠ (v210 : Value).ownBlock) (fun _ => False) rfl rfl ?aO ?aR (fun _ _ h => h) (fun _ h => h.elim) ?aF ?aB ?aS ?aL ?_; (case aR => repeat (first | exact (Kd.R_reads' HO_8.out).2.2 | (with_reducible refine Kd.C_alloc ?_ _) | (with_reducible refine Kd.C_drewN ?_ _) | (with_reducible refine Kd.C_drew ?_))); (case aB => exact (by repeat (first | (with_reducible first | exact HB.out | apply below_alloc | apply pw_below_drewN | apply below_drew1 | refine below_set ?_ GE201.out) | exact HB.out))); (case aF => exact (fun k_ hk => ⟨Kd.fresh' (Kd.R_lt (by (with_reducible repeat (first | apply Kd.R_alloc | apply Kd.R_drewN | apply Kd.R_drew)); exact HO_8.out)) k_ hk, Kd.fresh' (Kd.R_lt (by (with_reducible repeat (first | apply Kd.R_alloc | apply Kd.R_drewN | apply Kd.R_drew)); exact HO_9.out)) k_ hk⟩)); (case aO => exact (by (with_reducible repeat (first | apply Kd.R_alloc | apply Kd.R_drewN | apply Kd.R_drew)); exact Kd.R_mono HO251.out (fun _ hk => ⟨hk.1.2, hk.2⟩))); (case aS => exact (below_size (by repeat (first | (with_reducible first | exact HB.out | apply below_alloc | apply pw_below_drewN | apply below_drew1 | refine below_set ?_ GE201.out) | exact HB.out)))); (case aL => have := LMc83.out; omega); intro v253 w94 ho hb hg hat; rw [← Ny252.out] at ho; have n0_ := Aside0.mk (Kd.R_after (ok := (fun k_ => some k_ ≠ (v210 : Value).ownBlock)) (by (with_reducible repeat (first | apply Kd.R_alloc | apply Kd.R_drewN | apply Kd.R_drew)); exact HO_8.out) hg hat); have n1_ := Aside0.mk (Kd.R_after (ok := (fun k_ => some k_ ≠ (.slice (some ad218) t203.length co33 : Value).ownBlock)) (by (with_reducible repeat (first | apply Kd.R_alloc | apply Kd.R_drewN | apply Kd.R_drew)); exact HO_9.out) hg hat); have n2_ := Aside0.mk (blk_grown (g := gb201) (o := .cells #[.int .u8 a1_0, .int .u8 a1_1] 41 (0, 0)) (by (with_reducible repeat (first | refine blk_drewN ?_ _ | refine blk_drew ?_ | refine blk_alloc ?_ _)); exact BK201.out) hg (Kd.R_ne HO251.out BK201.out (by decide))); have n3_ := Aside0.mk (hb); have n4_ := Aside0.mk (ho); clear HO_8; clear HO_9; clear BK201; clear HB; clear HO251; have HO_8 := n0_; have HO_9 := n1_; have BK201 := n2_; have HB := n3_; have HO254 := n4_; clear n0_ n1_ n2_ n3_ n4_; clear ho hb hg hat; have p255 : 0 ≤ (ji20 : Int) := of_decide_eq_true (by first | (with_reducible assumption) | assumption); have q255 : ji20 < (t203.length : Int) := of_decide_eq_true (by first | (with_reducible assumption) | assumption); obtain ⟨ad255, e255, hx255_0, hx255_1⟩ := at_T24 (Kd.R_reads' HO_8.out).2.2 ji20 p255 q255; obtain rfl : ad218 = ad255 := (by injection e255); replace p255 := eq_true p255; replace q255 := eq_true q255; have p87 : 0 ≤ (ji20 : Int) := of_decide_eq_true (by first | (with_reducible assumption) | assumption); have q87 : (ji20 : Int) < ((y252.length : Int) : Int) := of_decide_eq_true (by first | (with_reducible assumption) | assumption); obtain ⟨go87, co87, eo87, gb87, gl87, cl87, HG87⟩ := Kd.R_form HO254.out (by omega); (first | cases eo87 | (injection eo87 with ea_ en_ ec_; (first | subst ea_ | (injection ea_ with ea_; subst ea_)); subst ec_; clear en_)); have GB87 := Aside0.mk gb87; have GG87 := Aside0.mk HG87; clear gb87 gl87 HG87; obtain ⟨ce87, hcl87, hM87, hcc87, hfr87⟩ := Kd.R_elem HO254.out z24 (ji20 : Int) p87 q87; obtain rfl := k24_openM hM87; have hx87_0 : w94.cell? ⟨go87, (ji20 : Int).toNat * 2, none⟩ = some (.int .i64 ((rd_T24 y252 ji20).f0)) := hcc87 0 _ rfl; have hx87_1 : w94.cell? ⟨go87, (ji20 : Int).toNat * 2 + 1, none⟩ = some (.int .i64 ((rd_T24 y252 ji20).f1)) := hcc87 1 _ rfl; have hf87_0 : w94.frozen? ⟨go87, (ji20 : Int).toNat * 2, none⟩ = false := hfr87 0; have hf87_1 : w94.frozen? ⟨go87, (ji20 : Int).toNat * 2 + 1, none⟩ = false := hfr87 1; clear hcl87 hcc87 hfr87 hM87; replace p87 := eq_true p87; replace q87 := eq_true q87; have HX95 := Aside0.mk (show Kd.R k24 24 w94 w.heap.size (fun k_ => some k_ ≠ (.slice (some ad218) t203.length co33 : Value).ownBlock ∧ some k_ ≠ (v210 : Value).ownBlock) (.slice (some ⟨go87, 0, none⟩) y252.length co87) y252 from (by (with_reducible repeat (first | apply Kd.R_alloc | apply Kd.R_drewN | apply Kd.R_drew)); exact HO254.out)); obtain ⟨ce95, hcl95, hM95, hcc95, hfr95⟩ := Kd.R_elem HX95.out z24 (ji20 : Int) (of_decide_eq_true (by first | (with_reducible assumption) | assumption)) (by have h_ : (ji20 : Int) < ((y252.length : Int) : Int) := of_decide_eq_true (by first | (with_reducible assumption) | assumption); first | exact h_ | (have e_ := (Kd.R_reads' HO254.out).1; omega) | simpa using h_); obtain rfl := k24_openM hM95; have HP95 := Kd.R_seg HX95.out (ji20 : Int) (of_decide_eq_true (by first | (with_reducible assumption) | assumption)) (by have h_ : (ji20 : Int) < ((y252.length : Int) : Int) := of_decide_eq_true (by first | (with_reducible assumption) | assumption); first | exact h_ | (have e_ := (Kd.R_reads' HO254.out).1; omega) | simpa using h_) (seg := [.int .i64 ((rd_T24 t203 ji20).f0), .int .i64 a2]) (j := 0) hcl95 hcc95 (show 2 ≤ 2 from by decide) (x' := (⟨(rd_T24 t203 ji20).f0, a2⟩ : S24)) (k24_mkM _ _ _ (⟨(rd_T24 t203 ji20).f0, a2⟩ : S24) ) (fun _ hk => hk); have hx95_0 := hcc95 0 _ rfl; (try simp only [show (k24).sz = 2 from rfl, Nat.mul_one, Nat.add_zero] at hx95_0); have hf95_0 := hfr95 0; (try simp only [show (k24).sz = 2 from rfl, Nat.mul_one, Nat.add_zero] at hf95_0); have hx95_1 := hcc95 1 _ rfl; (try simp only [show (k24).sz = 2 from rfl, Nat.mul_one, Nat.add_zero] at hx95_1); have hf95_1 := hfr95 1; (try simp only [show (k24).sz = 2 from rfl, Nat.mul_one, Nat.add_zero] at hf95_1); clear hcl95 hcc95 hfr95 hM95) | ((with_reducible refine gate_store (t := 24) (p := 116) rfl ?_); refine store_event (t := 24) (p := 116) (v := ?vo_w96) (w1 := ((w94.setCell ⟨go87, (ji20 : Int).toNat * 2, none⟩ (.int .i64 ((rd_T24 t203 ji20).f0))).setCell ⟨go87, (ji20 : Int).toNat * 2 + 1, none⟩ (.int .i64 a2))) ?hg ?ho ?hn ?hr ?_; (case ho => rfl); (case hg => rfl); (case hn => rfl); (case hr => first | (go_simp; done) | (go_simp; rfl)); intro w96 hw; have hg : w94.grownBy w96 (some go87) := (by rw [hw]; exact HP95.2); have hp_ : Kd.R k24 24 w96 w.heap.size (fun k_ => some k_ ≠ (.slice (some ad218) t203.length co33 : Value).ownBlock ∧ some k_ ≠ (v210 : Value).ownBlock) (.slice (some ⟨go87, 0, none⟩) y252.length co87) y256 := (by rw [hw, Ny256.out]; exact HP95.1); clear HP95; have n0_ := Aside0.mk (Kd.R_after (v := (.slice (some ⟨go87, 0, none⟩) y252.length co87)) (v1 := (.slice (some ⟨go87, 0, none⟩) y252.length co87)) (ok := (fun k_ => some k_ ≠ (v210 : Value).ownBlock)) (by (with_reducible repeat (first | apply Kd.R_alloc | apply Kd.R_drewN | apply Kd.R_drew)); exact HO_8.out) hg (.inl rfl)); have n1_ := Aside0.mk (Kd.R_after (v := (.slice (some ⟨go87, 0, none⟩) y252.length co87)) (v1 := (.slice (some ⟨go87, 0, none⟩) y252.length co87)) (ok := (fun k_ => some k_ ≠ (.slice (some ad218) t203.length co33 : Value).ownBlock)) (by (with_reducible repeat (first | apply Kd.R_alloc | apply Kd.R_drewN | apply Kd.R_drew)); exact HO_9.out) hg (.inl rfl)); have n2_ := Aside0.mk (blk_grown (g := gb201) (o := .cells #[.int .u8 a1_0, .int .u8 a1_1] 41 (0, 0)) (by (with_reducible repeat (first | refine blk_drewN ?_ _ | refine blk_drew ?_ | refine blk_alloc ?_ _)); exact BK201.out) hg (Kd.R_ne HO254.out BK201.out (by decide))); have n3_ := Aside0.mk (hp_); have n4_ := Aside0.mk ((by rw [hw]; exact below_set (below_set (HB.out) GB87.out) GB87.out : Below w.heap.size w w96)); clear HO_8; clear HO_9; clear BK201; clear HO254; clear HB; have HO_8 := n0_; have HO_9 := n1_; have BK201 := n2_; have HO254 := n3_; have HB := n4_; clear n0_ n1_ n2_ n3_ n4_; clear hg hw hp_; have p257 : 0 ≤ (ji20 : Int) := of_decide_eq_true (by first | (with_reducible assumption) | assumption); have q257 : ji20 < (t203.length : Int) := of_decide_eq_true (by first | (with_reducible assumption) | assumption); obtain ⟨ad257, e257, hx257_0, hx257_1⟩ := at_T24 (Kd.R_reads' HO_8.out).2.2 ji20 p257 q257; obtain rfl : ad218 = ad257 := (by injection e257); replace p257 := eq_true p257; replace q257 := eq_true q257) | ((with_reducible refine gate_dst (N := 125) rfl ?_); refine Kd.R_lit k24 _ 24 ?hg (N := 125) ?hd (xs := ([(⟨a2, (rd_T24 t203 ji20).f1⟩ : S24)] : List (S24))) (inner := [.int .i64 a2, .int .i64 ((rd_T24 t203 ji20).f1)]) (ok := fun _ => True) (okp := fun _ => True) ?hr ?hp (fun _ hk => hk) trivial (Below.refl _ _) (Nat.le_refl _) (by simp) ?_; (case hd => rfl); (case hg => rfl); (case hr => first | (go_simp; done) | (go_simp; rfl)); (case hp => exact (Reps.c2 (show Kd.M k24 _ _ _ (⟨a2, (rd_T24 t203 ji20).f1⟩ : S24) [.int .i64 a2, .int .i64 ((rd_T24 t203 ji20).f1)] from (k24_mkM _ _ _ (⟨a2, (rd_T24 t203 ji20).f1⟩ : S24) )) (Reps.none _ _))); intro v259 w97 ho98 hb hg_ hnew_; clear hg_ hnew_; (first | rw [← Ny258.out] at ho98 | (simp only [Int.reduceToNat] at ho98; rw [← Ny258.out] at ho98)); have n0_ := Aside0.mk (Kd.R_elder' (by (with_reducible repeat (first | apply Kd.R_alloc | apply Kd.R_drewN | apply Kd.R_drew)); exact HO_8.out) (Kd.R_base ho98) hb); have n1_ := Aside0.mk (Kd.R_elder' (by (with_reducible repeat (first | apply Kd.R_alloc | apply Kd.R_drewN | apply Kd.R_drew)); exact HO_9.out) (Kd.R_base ho98) hb); have n2_ := Aside0.mk (Kd.R_elder' (by (with_reducible repeat (first | apply Kd.R_alloc | apply Kd.R_drewN | apply Kd.R_drew)); exact HO254.out) (Kd.R_base ho98) hb); have n3_ := Aside0.mk (Kd.R_lower (Kd.R_new' (Kd.R_new' (Kd.R_new' ho98 (Kd.R_lt (by (with_reducible repeat (first | apply Kd.R_alloc | apply Kd.R_drewN | apply Kd.R_drew)); exact HO_8.out))) (Kd.R_lt (by (with_reducible repeat (first | apply Kd.R_alloc | apply Kd.R_drewN | apply Kd.R_drew)); exact HO_9.out))) (Kd.R_lt (by (with_reducible repeat (first | apply Kd.R_alloc | apply Kd.R_drewN | apply Kd.R_drew)); exact HO254.out))) (below_size (by repeat (first | (with_reducible first | exact HB.out | apply below_alloc | apply pw_below_drewN | apply below_drew1 | refine below_set ?_ GE201.out) | exact HB.out)))); have n4_ := Aside0.mk (blk_below (g := gb201) (o := .cells #[.int .u8 a1_0, .int .u8 a1_1] 41 (0, 0)) (by (with_reducible repeat (first | refine blk_drewN ?_ _ | refine blk_drew ?_ | refine blk_alloc ?_ _)); exact BK201.out) hb); have n5_ := Aside0.mk (below_step (by repeat (first | (with_reducible first | exact HB.out | apply below_alloc | apply pw_below_drewN | apply below_drew1 | refine below_set ?_ GE201.out) | exact HB.out)) hb); clear HO_8; clear HO_9; clear HO254; clear BK201; clear HB; have HO_8 := n0_; have HO_9 := n1_; have HO254 := n2_; have HO260 := n3_; have BK201 := n4_; have HB := n5_; clear n0_ n1_ n2_ n3_ n4_ n5_; clear hb ho98; obtain ⟨Ao100, co100, eo100⟩ := Kd.R_slice HO260.out; subst eo100) | ((with_reducible refine gate_builtin (b := .append) (xs := #[.tmp 117, .tmp 125]) rfl ?_); at_builtin; refine Kd.R_append_rows k24 (w0 := w) w.heap.size rfl (.tmp 117) (.tmp 125) 22 24 (.agg #[(.int .i64 0), (.int .i64 0)]) 16 rfl Try.underlying22 info24 rfl (by decide) (by omega) (.slice (some ⟨go87, 0, none⟩) y252.length co87) y256 y258 _ _ _ (fun k_ => some k_ ≠ (.slice (some ad218) t203.length co33 : Value).ownBlock ∧ some k_ ≠ (v210 : Value).ownBlock ∧ some k_ ≠ (.slice Ao100 y258.length co100 : Value).ownBlock) (fun _ => False) rfl rfl ?aO ?aR (fun _ _ h => h) (fun _ h => h.elim) ?aF ?aB ?aS ?aL ?_; (case aR => repeat (first | exact (Kd.R_reads' HO260.out).2.2 | (with_reducible refine Kd.C_alloc ?_ _) | (with_reducible refine Kd.C_drewN ?_ _) | (with_reducible refine Kd.C_drew ?_))); (case aB => exact (by repeat (first | (with_reducible first | exact HB.out | apply below_alloc | apply pw_below_drewN | apply below_drew1 | refine below_set ?_ GE201.out) | exact HB.out))); (case aF => exact (fun k_ hk => ⟨Kd.fresh' (Kd.R_lt (by (with_reducible repeat (first | apply Kd.R_alloc | apply Kd.R_drewN | apply Kd.R_drew)); exact HO_8.out)) k_ hk, Kd.fresh' (Kd.R_lt (by (with_reducible repeat (first | apply Kd.R_alloc | apply Kd.R_drewN | apply Kd.R_drew)); exact HO_9.out)) k_ hk, Kd.fresh' (Kd.R_lt (by (with_reducible repeat (first | apply Kd.R_alloc | apply Kd.R_drewN | apply Kd.R_drew)); exact HO260.out)) k_ hk⟩)); (case aO => exact (by (with_reducible repeat (first | apply Kd.R_alloc | apply Kd.R_drewN | apply Kd.R_drew)); exact Kd.R_mono HO254.out (fun _ hk => ⟨hk.1.1, ⟨hk.1.2, hk.2⟩⟩))); (case aS => exact (below_size (by repeat (first | (with_reducible first | exact HB.out | apply below_alloc | apply pw_below_drewN | apply below_drew1 | refine below_set ?_ GE201.out) | exact HB.out)))); (case aL => have := LMc88.out; omega); intro v262 w99 ho hb hg hat; rw [← Ny261.out] at ho; have n0_ := Aside0.mk (Kd.R_after (ok := (fun k_ => some k_ ≠ (v210 : Value).ownBlock ∧ some k_ ≠ (.slice Ao100 y258.length co100 : Value).ownBlock)) (by (with_reducible repeat (first | apply Kd.R_alloc | apply Kd.R_drewN | apply Kd.R_drew)); exact Kd.R_mono HO_8.out (fun _ hk => ⟨⟨hk.1.1, hk.2⟩, hk.1.2⟩)) hg hat); have n1_ := Aside0.mk (Kd.R_after (ok := (fun k_ => some k_ ≠ (.slice (some ad218) t203.length co33 : Value).ownBlock ∧ some k_ ≠ (.slice Ao100 y258.length co100 : Value).ownBlock)) (by (with_reducible repeat (first | apply Kd.R_alloc | apply Kd.R_drewN | apply Kd.R_drew)); exact Kd.R_mono HO_9.out (fun _ hk => ⟨⟨hk.1.1, hk.2⟩, hk.1.2⟩)) hg hat); have n2_ := Aside0.mk (blk_grown (g := gb201) (o := .cells #[.int .u8 a1_0, .int .u8 a1_1] 41 (0, 0)) (by (with_reducible repeat (first | refine blk_drewN ?_ _ | refine blk_drew ?_ | refine blk_alloc ?_ _)); exact BK201.out) hg (Kd.R_ne HO254.out BK201.out (by decide))); have n3_ := Aside0.mk (Kd.R_after (ok := (fun k_ => some k_ ≠ (.slice (some ad218) t203.length co33 : Value).ownBlock ∧ some k_ ≠ (v210 : Value).ownBlock)) (by (with_reducible repeat (first | apply Kd.R_alloc | apply Kd.R_drewN | apply Kd.R_drew)); exact Kd.R_mono HO260.out (fun _ hk => ⟨⟨hk.1.1.2, hk.1.2⟩, hk.2⟩)) hg hat); have n4_ := Aside0.mk (hb); have n5_ := Aside0.mk (ho); clear HO_8; clear HO_9; clear BK201; clear HO260; clear HB; clear HO254; have HO_8 := n0_; have HO_9 := n1_; have BK201 := n2_; have HO260 := n3_; have HB := n4_; have HO263 := n5_; clear n0_ n1_ n2_ n3_ n4_ n5_; clear ho hb hg hat; obtain ⟨Ao101, co101, eo101⟩ := Kd.R_slice HO263.out; subst eo101) | ((with_reducible refine gate_callee (f := 15) rfl ?_); refine goesL_ (some 128) rfl rfl Try.func15 (by kernel_rfl) rfl #[.slice Ao101 y261.length co101] rfl (by (try simp only [List.map_toArray, List.map_cons, List.map_nil]); first | done | rfl | (simp only [List.length_drop, List.length_take]; rfl)) ?_; (with_reducible refine (span_Norm.calls _ _ y261 t264 _ ?side1 ?side2 A89.out).mono ?_); (case side1 => repeat (first | exact (Kd.R_reads' HO263.out).2.2 | (with_reducible refine Kd.C_alloc ?_ _) | (with_reducible refine Kd.C_drewN ?_ _) | (with_reducible refine Kd.C_drew ?_))); (case side2 => exact (Kd.R_reads' HO263.out).2.1); rintro e w102 ⟨v265, rfl, ho0, hb⟩; refine ⟨_, rfl, ?_⟩; have n0_ := Aside0.mk (Kd.R_elder' (by (with_reducible repeat (first | apply Kd.R_alloc | apply Kd.R_drewN | apply Kd.R_drew)); exact HO_8.out) (Kd.R_base ho0) hb); have n1_ := Aside0.mk (Kd.R_elder' (by (with_reducible repeat (first | apply Kd.R_alloc | apply Kd.R_drewN | apply Kd.R_drew)); exact HO_9.out) (Kd.R_base ho0) hb); have n2_ := Aside0.mk (Kd.R_elder' (by (with_reducible repeat (first | apply Kd.R_alloc | apply Kd.R_drewN | apply Kd.R_drew)); exact HO260.out) (Kd.R_base ho0) hb); have n3_ := Aside0.mk (Kd.R_elder' (by (with_reducible repeat (first | apply Kd.R_alloc | apply Kd.R_drewN | apply Kd.R_drew)); exact HO263.out) (Kd.R_base ho0) hb); have n4_ := Aside0.mk (Kd.R_lower (Kd.R_new' (Kd.R_new' (Kd.R_new' (Kd.R_new' ho0 (Kd.R_lt (by (with_reducible repeat (first | apply Kd.R_alloc | apply Kd.R_drewN | apply Kd.R_drew)); exact HO_8.out))) (Kd.R_lt (by (with_reducible repeat (first | apply Kd.R_alloc | apply Kd.R_drewN | apply Kd.R_drew)); exact HO_9.out))) (Kd.R_lt (by (with_reducible repeat (first | apply Kd.R_alloc | apply Kd.R_drewN | apply Kd.R_drew)); exact HO260.out))) (Kd.R_lt (by (with_reducible repeat (first | apply Kd.R_alloc | apply Kd.R_drewN | apply Kd.R_drew)); exact HO263.out))) (below_size (by repeat (first | (with_reducible first | exact HB.out | apply below_alloc | apply pw_below_drewN | apply below_drew1 | refine below_set ?_ GE201.out) | exact HB.out)))); have n5_ := Aside0.mk (blk_below (g := gb201) (o := .cells #[.int .u8 a1_0, .int .u8 a1_1] 41 (0, 0)) (by (with_reducible repeat (first | refine blk_drewN ?_ _ | refine blk_drew ?_ | refine blk_alloc ?_ _)); exact BK201.out) hb); have n6_ := Aside0.mk (below_step (by repeat (first | (with_reducible first | exact HB.out | apply below_alloc | apply pw_below_drewN | apply below_drew1 | refine below_set ?_ GE201.out) | exact HB.out)) hb); clear HO_8; clear HO_9; clear HO260; clear HO263; clear BK201; clear HB; have HO_8 := n0_; have HO_9 := n1_; have HO260 := n2_; have HO263 := n3_; have HO266 := n4_; have BK201 := n5_; have HB := n6_; clear n0_ n1_ n2_ n3_ n4_ n5_ n6_; (try clear hb); (try clear hb2); (try clear hk); (try clear hi); (try clear ho0); obtain ⟨Ao103, co103, eo103⟩ := Kd.R_slice HO266.out; subst eo103; obtain ⟨Ao104, co104, eo104⟩ := Kd.R_slice HO_9.out; subst eo104) | ((with_reducible refine gate_callee (f := 14) rfl ?_); refine goesL_ (some 130) rfl rfl Try.func14 (by kernel_rfl) rfl #[.slice Ao103 t264.length co103, .slice Ao104 t209.length co104] rfl (by (try simp only [List.map_toArray, List.map_cons, List.map_nil]); first | done | rfl | (simp only [List.length_drop, List.length_take]; rfl)) ?_; (with_reducible refine (r11_Same.calls kj77 _ _ t264 _ _ t209 true _ ?side1 ?side2 ?side3 ?side4 A90.out).mono ?_); (case side1 => repeat (first | exact (Kd.R_reads' HO266.out).2.2 | (with_reducible refine Kd.C_alloc ?_ _) | (with_reducible refine Kd.C_drewN ?_ _) | (with_reducible refine Kd.C_drew ?_))); (case side2 => exact (Kd.R_reads' HO266.out).2.1); (case side3 => repeat (first | exact (Kd.R_reads' HO_9.out).2.2 | (with_reducible refine Kd.C_alloc ?_ _) | (with_reducible refine Kd.C_drewN ?_ _) | (with_reducible refine Kd.C_drew ?_))); (case side4 => exact (Kd.R_reads' HO_9.out).2.1); rintro e w' ⟨rfl, ⟨nd, rfl⟩⟩; refine ⟨_, rfl, ?_⟩))
                       go_ret
                       exact ⟨by first | rfl | (simp [errW_none, errW_some] <;> rfl) | (simp only [← hji17, ← hji20]; first | rfl | (simp [errW_none, errW_some] <;> rfl)) | (simp [*, errW_none, errW_some] <;> rfl) | (exfalso; simp_all only [aside0_iff, Option.some.injEq, reduceCtorEq]), by repeat (first | (with_reducible first | exact HB.out | apply below_alloc | apply pw_below_drewN | apply below_drew1 | refine below_set ?_ GE201.out) | exact HB.out)⟩
                      ·replace c91 := Bool.eq_false_iff.mpr c91
                       subst c91
                       have H1 : (some false) = some r := by rw [if_neg (show ¬ (false = true) by decide)] at H; exact H
                       clear H
                       have H := H1
                       clear H1
                       exact absurd ((Option.some.inj H).trans HLAW.out) (by decide)
                     ·rw [if_neg c88] at H
                      exact absurd H (by simp)
                    ·rw [if_neg c86] at H
                     exact absurd H (by simp)
                   ·rw [if_neg c85] at H
                    exact absurd H (by simp)
                  ·rw [if_neg c84] at H
                   exact absurd H (by simp)
                 ·rw [if_neg c83] at H
                  exact absurd H (by simp)
          ·rw [if_neg c28] at H
           exact absurd H (by simp)
         ·rw [if_neg c27] at H
          exact absurd H (by simp)
        ·rw [if_neg c25] at H
         exact absurd H (by simp)
       ·rw [if_neg c23] at H
        exact absurd H (by simp)
      ·rw [if_neg c22] at H
       exact absurd H (by simp)
     ·rw [if_neg c21] at H
      exact absurd H (by simp)
    ·rw [if_neg c19] at H
     exact absurd H (by simp)
   ·rw [if_neg c18] at H
    exact absurd H (by simp)
  ·rw [if_neg c16] at H
   exact absurd H (by simp)

/-- THE ONE PURE STATEMENT of l11_SpanOrder: yours. -/
def l11_SpanOrder.Pure : Prop := ∀ (l0 : List (S24)) (a1_0 : Int) (a1_1 : Int) (a2 : Int), (l0.length ≤ maxLen ∧ l0.length * 16 ≤ 140737488351232 ∧ ∀ x1_ ∈ l0, ((Lit.int .i64 x1_.f0).wf = true) ∧ ((Lit.int .i64 x1_.f1).wf = true)) → (((Lit.int .u8 a1_0).wf = true) ∧ ((Lit.int .u8 a1_1).wf = true)) → ((Lit.int .i64 a2).wf = true) → ∃ k, l11_SpanOrder.f k l0 a1_0 a1_1 a2 = some true

end Go.Proofs.Ytebggajdojdebaa.PS
