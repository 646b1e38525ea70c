/- Put together by this session's program out of: Sh Sd Se Sf Sg Si0. -/
import Derived.Ground.SlgmProg
import Derived.Ground.SlgnProg
import Derived.Laws.EntriesVeiled
import Derived.Lib.RowBridge
import Derived.Shelf.SlGeneric
import Derived.Shelf.SlicesG.CompactS
import Derived.Shelf.SortM.Plain
import Derived.Shelf.SortM.SortNone
import Derived.Test.YtanabbjakacgbaaGreatDoorProg
import Derived.Test.YtanabbjakacgbaaGreatDoorM8
namespace Go.Proofs
open Go.Shelf
def Tryz.compS_ren : Go.Shelf.Ren := ⟨fun | 44 => 56 | n => n, fun | 25 => 36 | 26 => 9 | 3 => 3 | 4 => 4 | 0 => 0 | n => n, fun | n => n⟩
theorem Tryz.compS : Go.Proofs.SlLaysN.n44 Tryz.prog Tryz.compS_ren := {
 mixed := by kernel_rfl
 f44 := ⟨Tryz.f56.name, by decide, Tryz.func56.trans (congrArg some (by kernel_rfl))⟩
 t0 := Tryz.underlying0
 a0 := Tryz.isAgg0
 z0 := Tryz.sizeOf0
 v0 := Tryz.zeroValue0
 t3 := Tryz.underlying3
 a3 := Tryz.isAgg3
 z3 := Tryz.sizeOf3
 v3 := Tryz.zeroValue3
 t4 := Tryz.underlying4
 a4 := Tryz.isAgg4
 z4 := Tryz.sizeOf4
 v4 := Tryz.zeroValue4
 t25 := Tryz.underlying36
 a25 := Tryz.isAgg36
 z25 := Tryz.sizeOf36
 v25 := Tryz.zeroValue36
 t26 := Tryz.underlying9
 a26 := Tryz.isAgg9
 z26 := Tryz.sizeOf9
 v26 := Tryz.zeroValue9
 i26 := by kernel_rfl }
def Tryz.sortS_ren : Go.Shelf.Ren := ⟨fun | 6 => 55 | 8 => 77 | 9 => 76 | 19 => 95 | 20 => 96 | 21 => 86 | 22 => 87 | 23 => 88 | 24 => 89 | 25 => 90 | 26 => 91 | 27 => 92 | 28 => 93 | 29 => 94 | 36 => 101 | 31 => 102 | 32 => 103 | 37 => 104 | 38 => 105 | 39 => 106 | 41 => 107 | n => n, fun | 27 => 36 | 29 => 9 | 3 => 3 | 32 => 97 | 26 => 36 | 0 => 0 | 44 => 144 | 46 => 92 | 4 => 4 | 36 => 137 | 35 => 136 | 41 => 87 | 5 => 5 | 9 => 9 | 53 => 148 | 57 => 152 | 63 => 155 | 64 => 156 | n => n, fun | n => n⟩
theorem Tryz.sortS : Go.Proofs.SlLaysM.n6 Tryz.prog Tryz.sortS_ren := {
 mixed := by kernel_rfl
 f6 := ⟨Tryz.f55.name, by decide, Tryz.func55.trans (congrArg some (by kernel_rfl))⟩
 f8 := Tryz.func77.trans (congrArg some (by kernel_rfl))
 f9 := ⟨Tryz.f76.name, by decide, Tryz.func76.trans (congrArg some (by kernel_rfl))⟩
 f19 := Tryz.func95.trans (congrArg some (by kernel_rfl))
 f20 := Tryz.func96.trans (congrArg some (by kernel_rfl))
 f21 := ⟨Tryz.f86.name, by decide, Tryz.func86.trans (congrArg some (by kernel_rfl))⟩
 f22 := ⟨Tryz.f87.name, by decide, Tryz.func87.trans (congrArg some (by kernel_rfl))⟩
 f23 := ⟨Tryz.f88.name, by decide, Tryz.func88.trans (congrArg some (by kernel_rfl))⟩
 f24 := ⟨Tryz.f89.name, by decide, Tryz.func89.trans (congrArg some (by kernel_rfl))⟩
 f25 := ⟨Tryz.f90.name, by decide, Tryz.func90.trans (congrArg some (by kernel_rfl))⟩
 f26 := ⟨Tryz.f91.name, by decide, Tryz.func91.trans (congrArg some (by kernel_rfl))⟩
 f27 := ⟨Tryz.f92.name, by decide, Tryz.func92.trans (congrArg some (by kernel_rfl))⟩
 f28 := ⟨Tryz.f93.name, by decide, Tryz.func93.trans (congrArg some (by kernel_rfl))⟩
 f29 := ⟨Tryz.f94.name, by decide, Tryz.func94.trans (congrArg some (by kernel_rfl))⟩
 f31 := Tryz.func102.trans (congrArg some (by kernel_rfl))
 f32 := Tryz.func103.trans (congrArg some (by kernel_rfl))
 f36 := ⟨Tryz.f101.name, by decide, Tryz.func101.trans (congrArg some (by kernel_rfl))⟩
 f37 := ⟨Tryz.f104.name, by decide, Tryz.func104.trans (congrArg some (by kernel_rfl))⟩
 f38 := ⟨Tryz.f105.name, by decide, Tryz.func105.trans (congrArg some (by kernel_rfl))⟩
 f39 := ⟨Tryz.f106.name, by decide, Tryz.func106.trans (congrArg some (by kernel_rfl))⟩
 f41 := ⟨Tryz.f107.name, by decide, Tryz.func107.trans (congrArg some (by kernel_rfl))⟩
 t0 := Tryz.underlying0
 a0 := Tryz.isAgg0
 z0 := Tryz.sizeOf0
 v0 := Tryz.zeroValue0
 t3 := Tryz.underlying3
 a3 := Tryz.isAgg3
 z3 := Tryz.sizeOf3
 v3 := Tryz.zeroValue3
 t4 := Tryz.underlying4
 a4 := Tryz.isAgg4
 z4 := Tryz.sizeOf4
 v4 := Tryz.zeroValue4
 t5 := Tryz.underlying5
 a5 := Tryz.isAgg5
 z5 := Tryz.sizeOf5
 v5 := Tryz.zeroValue5
 t9 := Tryz.underlying9
 a9 := Tryz.isAgg9
 z9 := Tryz.sizeOf9
 v9 := Tryz.zeroValue9
 t26 := Tryz.underlying36
 a26 := Tryz.isAgg36
 z26 := Tryz.sizeOf36
 v26 := Tryz.zeroValue36
 t27 := Tryz.underlying36
 a27 := Tryz.isAgg36
 z27 := Tryz.sizeOf36
 v27 := Tryz.zeroValue36
 t29 := Tryz.underlying9
 a29 := Tryz.isAgg9
 z29 := Tryz.sizeOf9
 v29 := Tryz.zeroValue9
 t32 := Tryz.underlying97
 a32 := Tryz.isAgg97
 z32 := Tryz.sizeOf97
 v32 := Tryz.zeroValue97
 t35 := Tryz.underlying136
 a35 := Tryz.isAgg136
 z35 := Tryz.sizeOf136
 v35 := Tryz.zeroValue136
 t36 := Tryz.underlying137
 a36 := Tryz.isAgg137
 z36 := Tryz.sizeOf137
 v36 := Tryz.zeroValue137
 t41 := Tryz.underlying87
 a41 := Tryz.isAgg87
 z41 := Tryz.sizeOf87
 v41 := Tryz.zeroValue87
 t44 := Tryz.underlying144
 a44 := Tryz.isAgg144
 z44 := Tryz.sizeOf144
 v44 := Tryz.zeroValue144
 t46 := Tryz.underlying92
 a46 := Tryz.isAgg92
 z46 := Tryz.sizeOf92
 v46 := Tryz.zeroValue92
 t53 := Tryz.underlying148
 a53 := Tryz.isAgg148
 z53 := Tryz.sizeOf148
 v53 := Tryz.zeroValue148
 t57 := Tryz.underlying152
 a57 := Tryz.isAgg152
 z57 := Tryz.sizeOf152
 v57 := Tryz.zeroValue152
 t63 := Tryz.underlying155
 a63 := Tryz.isAgg155
 z63 := Tryz.sizeOf155
 v63 := Tryz.zeroValue155
 t64 := Tryz.underlying156
 a64 := Tryz.isAgg156
 z64 := Tryz.sizeOf156
 v64 := Tryz.zeroValue156 }
end Go.Proofs
namespace Go.Proofs.YtanabbjakacgbaaGreatDoor.Sp
open Go.RowKit Go.Proofs.YtanabbjakacgbaaGreatDoorW.PrintWords Go.Proofs.YtanabbjakacgbaaGreatDoorW.PrintLast Go.Proofs.YtanabbjakacgbaaGreatDoorW.PrintMore Go.Proofs.YtanabbjakacgbaaGreatDoor.PM Go.Sort
set_option linter.unusedVariables false
set_option linter.unusedSimpArgs false
set_option maxRecDepth 100000
theorem strs_holds {w : World} {base g cap : Nat} {l : List (List UInt8)} (ho : w.ownsRow base 9 1 (.slice (some ⟨g, 0, none⟩) l.length cap) l.length (encs encStr l)) : Go.Sort.Holds encStr w g 0 l.toArray := by
 intro j hj
 have hj' : j < l.length := by simpa using hj
 have h := own_at_of (d := ([] : List UInt8)) ho (j : Int) (by omega) (by omega)
 rw [Int.toNat_natCast] at h
 rw [Nat.zero_add]
 refine ⟨h.1.trans ?_, h.2⟩
 unfold rdOf
 rw [Int.toNat_natCast, List.getD_eq_getElem?_getD, List.getElem?_eq_getElem hj', getElem!_pos l.toArray j (by simpa using hj')]
 simp
theorem strs_put {w : World} {base g cap n : Nat} {cur : Array Value} (hb : base ≤ g) (hg : w.heap[g]? = some (.cells cur 9 (0, 0))) (hnc : n ≤ cap) (hcm : cap ≤ maxLen) (hcs : cur.size = cap * 1) (d : List (List UInt8)) (hd : d.length = n) (q : Nat) (os : Array Obj) (m : Nat) (hm : m ≤ n) :
  (Go.Sort.grow (Go.Sort.putRow encStr (Go.Sort.ahead w q) g 0 d.toArray) os).ownsRow base 9 1 (.slice (some ⟨g, 0, none⟩) m cap) m (encs encStr (d.take m)) ∧ w.grownBy (Go.Sort.grow (Go.Sort.putRow encStr (Go.Sort.ahead w q) g 0 d.toArray) os) (some g) := by
 have hgl := (Array.getElem?_eq_some_iff.1 hg).1
 refine ⟨⟨by simp [encs, List.length_take]; omega, .inr ⟨g, cap, Go.Sort.putCells encStr 0 d.toArray cur, rfl, hb, ?_, by omega, hcm, ?_, ?_⟩⟩, ⟨rfl, rfl, rfl, ?_, fun k hk hne => ?_⟩⟩
 ·show (w.heap.modify g (Go.Sort.onCells (Go.Sort.putCells encStr 0 d.toArray)) ++ os)[g]? = _
  rw [Array.getElem?_append_left (by rw [Array.size_modify]; exact hgl), Array.getElem?_modify, if_pos rfl, hg]
  rfl
 ·unfold Go.Sort.putCells; rw [Array.size_mapIdx]; exact hcs
 ·refine List.ext_getElem? fun j => ?_
  rw [List.getElem?_take]
  by_cases hj : j < m * 1
  ·have hjn : j < d.length := by omega
   have hj2 : j < cur.size := by omega
   rw [if_pos hj, Array.getElem?_toList]
   unfold Go.Sort.putCells encs
   rw [Array.getElem?_mapIdx, Array.getElem?_eq_getElem hj2, Option.map_some, if_pos ⟨Nat.zero_le _, by simp; omega⟩, Nat.sub_zero, List.getElem?_map, List.getElem?_take, if_pos (by omega), List.getElem?_eq_getElem hjn, getElem!_pos d.toArray j (by simpa using hjn)]
   simp
  ·rw [if_neg hj, List.getElem?_eq_none (by simp [encs, List.length_take]; omega)]
 ·show w.heap.size ≤ (w.heap.modify g _ ++ os).size
  rw [Array.size_append, Array.size_modify]; omega
 ·show (w.heap.modify g _ ++ os)[k]? = _
  rw [Array.getElem?_append_left (by rw [Array.size_modify]; exact hk), Array.getElem?_modify, if_neg (fun e => hne (by rw [e]))]
theorem grow_none (w : World) : Go.Sort.grow w #[] = w := by unfold Go.Sort.grow; rw [Array.append_empty]
theorem compactUpTo_mem (l : List (List UInt8)) : ∀ m, m ≤ l.length → ∀ x, x ∈ Go.Lib.compactUpTo l.toArray m ↔ x ∈ l.take m
 | 0, _, x => by simp [Go.Lib.compactUpTo]
 | m + 1, h, x => by
  have hm : m < l.length := by omega
  have e : l.toArray[m]! = l[m] := by rw [getElem!_pos l.toArray m (by simpa using hm)]; simp
  rw [Go.Lib.compactUpTo_succ, List.take_succ_eq_append_getElem hm, List.mem_append, List.mem_append, compactUpTo_mem l m (by omega) x, e]
  by_cases hk : Go.Lib.keeps l.toArray m = true
  ·rw [if_pos hk]
  ·rw [if_neg hk]
   constructor
   ·rintro (h | h)
    ·exact .inl h
    ·cases h
   ·rintro (h | h)
    ·exact .inl h
    ·refine .inl ?_
     rw [List.mem_singleton.1 h]
     have hk' : ¬ (m = 0 ∨ l.toArray[m]! ≠ l.toArray[m - 1]!) := fun c => hk (decide_eq_true c)
     have h0 : m ≠ 0 := fun c => hk' (.inl c)
     have h1 : l.toArray[m]! = l.toArray[m - 1]! := Decidable.of_not_not fun c => hk' (.inr c)
     rw [e, getElem!_pos l.toArray (m - 1) (by simp; omega)] at h1
     rw [h1, List.mem_take_iff_getElem]
     exact ⟨m - 1, by omega, by simp⟩
theorem compact_mem (l : List (List UInt8)) (x : List UInt8) : x ∈ Go.Lib.compact l ↔ x ∈ l := by
 have := compactUpTo_mem l l.length (Nat.le_refl _) x
 rwa [List.take_length] at this
def sBl (p : ByteArray) : List UInt8 := p.data.toList
def sLb (l : List UInt8) : ByteArray := ⟨l.toArray⟩
theorem lb_bl (p : ByteArray) : sLb (sBl p) = p := by cases p; simp [sLb, sBl]
theorem bl_lb (l : List UInt8) : sBl (sLb l) = l := by simp [sLb, sBl]
theorem encs_bl (ks : List ByteArray) : encs Value.string ks = encs encStr (ks.map sBl) := by
 unfold encs
 rw [List.map_map]
 exact List.map_congr_left fun p _ => by show Value.string p = Value.string (sLb (sBl p)); rw [lb_bl]
theorem encs_lb (ss : List (List UInt8)) : encs Value.string (ss.map sLb) = encs encStr ss := by rw [encs_bl, List.map_map]; congr 1; rw [show (sBl ∘ sLb) = id from funext fun l => bl_lb l, List.map_id]
def sortOf (ks : List ByteArray) : List ByteArray := ((ks.map sBl).mergeSort fun x y => decide (x ≤ y)).map sLb
def compOf (ks : List ByteArray) : List ByteArray := (Go.Lib.compact (ks.map sBl)).map sLb
theorem sortOf_len (ks : List ByteArray) : (sortOf ks).length = ks.length := by unfold sortOf; rw [List.length_map, List.length_mergeSort, List.length_map]
theorem compOf_len (ks : List ByteArray) : (compOf ks).length ≤ ks.length := by unfold compOf; have := Go.Lib.compact_length_le (ks.map sBl); simpa using this
theorem compS_calls {w0 : World} {base : Nat} {ok : Nat → Prop} {v : Value} {l : List ByteArray} {w : World} (h : Kd.string.R 9 w base ok v l) (hB : Below base w0 w) (hbase : base ≤ w.heap.size) (hl : l.length ≤ 1000000000000) :
  Calls Tryz.prog 56 #[v] w fun e w' => ∃ v1, e = .returned v1 ∧ Kd.string.R 9 w' base ok v1 (compOf l) ∧ Below base w0 w' := by
 have ho : w.ownsRow base 9 1 v l.length (encs Value.string l) := Kd.own_of_R h
 rw [encs_bl] at ho
 have hc := compOf_len l
 rcases ho.2 with ⟨rfl, hn⟩ | ⟨g, cap, cur, rfl, hb, hg, hnc, hcm, hcs, htake⟩
 ·have hl0 : l = [] := List.length_eq_zero_iff.1 hn
  subst hl0
  refine (AnyG.slices_Compact_string_empty Tryz.compS none 0 w).mono ?_
  rintro e w' ⟨rfl, rfl⟩
  exact ⟨_, rfl, h, hB⟩
 ·have hll : (l.map sBl).length = l.length := List.length_map ..
  rw [← hll] at ho hnc hc hl ⊢
  refine (AnyG.slices_Compact_string Tryz.compS g 0 cap (l.map sBl) w (strs_holds ho) (by omega) hnc).mono ?_
  rintro e w' ⟨rfl, q, rfl⟩
  have hcl : (Go.Lib.compact (l.map sBl)).length = (compOf l).length := by unfold compOf; rw [List.length_map]
  have hd : (Go.Lib.compact (l.map sBl) ++ List.replicate ((l.map sBl).length - (Go.Lib.compact (l.map sBl)).length) []).length = (l.map sBl).length := by rw [List.length_append, List.length_replicate]; omega
  obtain ⟨h1, h2⟩ := strs_put hb hg hnc hcm hcs _ hd q #[] (Go.Lib.compact (l.map sBl)).length (by omega)
  rw [grow_none, List.take_left] at h1
  rw [grow_none] at h2
  refine ⟨_, rfl, Kd.R_of_own ?_ (fun k hk => h.1 k hk), hB.grown h2 hbase (fun k hk => by obtain rfl := Option.some.inj hk; exact hb)⟩
  rw [← hcl, compOf, encs_lb]
  exact h1
theorem sortS_calls {w0 : World} {base : Nat} {ok : Nat → Prop} {v : Value} {l : List ByteArray} {w : World} (h : Kd.string.R 9 w base ok v l) (hB : Below base w0 w) (hbase : base ≤ w.heap.size) (hl : l.length ≤ 1000000000000) :
  Calls Tryz.prog 55 #[v] w fun e w' => e = .returned (.tuple #[]) ∧ Kd.string.R 9 w' base ok v (sortOf l) ∧ Below base w0 w' ∧ w.heap.size ≤ w'.heap.size := by
 have ho : w.ownsRow base 9 1 v l.length (encs Value.string l) := Kd.own_of_R h
 rw [encs_bl] at ho
 rcases ho.2 with ⟨rfl, hn⟩ | ⟨g, cap, cur, rfl, hb, hg, hnc, hcm, hcs, htake⟩
 ·have hl0 : l = [] := List.length_eq_zero_iff.1 hn
  subst hl0
  refine (AnyM.slices_Sort_string_none Tryz.sortS none 0 w).mono ?_
  rintro e w' ⟨rfl, rfl⟩
  exact ⟨rfl, by rw [sortOf, List.map_nil, List.mergeSort_nil]; exact h, hB, Nat.le_refl _⟩
 ·have hll : (l.map sBl).length = l.length := List.length_map ..
  rw [← hll] at ho hnc hl ⊢
  have hm : ((l.map sBl).mergeSort fun x y => decide (x ≤ y)).length = (l.map sBl).length := List.length_mergeSort _
  refine (AnyM.slices_Sort_string Tryz.sortS g 0 cap (l.map sBl) w (strs_holds ho) (Array.getElem?_eq_some_iff.1 hg).1 (by omega)).mono ?_
  rintro e w' ⟨rfl, q, os, rfl⟩
  obtain ⟨h1, h2⟩ := strs_put hb hg hnc hcm hcs _ hm q os (l.map sBl).length (Nat.le_refl _)
  rw [List.take_of_length_le (by omega)] at h1
  refine ⟨rfl, Kd.R_of_own ?_ (fun k hk => h.1 k hk), hB.grown h2 hbase (fun k hk => by obtain rfl := Option.some.inj hk; exact hb), h2.size⟩
  rw [sortOf_len, ← hll, sortOf, encs_lb]
  exact h1
end Go.Proofs.YtanabbjakacgbaaGreatDoor.Sp
namespace Go.Proofs.YtanabbjakacgbaaGreatDoor.Sp
open Go.RowKit Go.Proofs.YtanabbjakacgbaaGreatDoorW.PrintWords Go.Proofs.YtanabbjakacgbaaGreatDoorW.PrintLast Go.Proofs.YtanabbjakacgbaaGreatDoorW.PrintMore Go.Proofs.YtanabbjakacgbaaGreatDoor.PM
set_option linter.unusedVariables false
set_option linter.unusedSimpArgs false
set_option maxRecDepth 100000
theorem wp_named {P : Program} {c : Code} {Q : Exit → Act → World → Prop} {a : Act} {W : World} (h : ∀ W1, W1 = W → c.wp P Q a W1) : c.wp P Q a W := h W rfl
theorem CmpFr.below {B gp gk b : Nat} {w w1 : World} (h : CmpFr B gp gk w w1) (h1 : b ≤ gp) (h2 : b ≤ gk) (h3 : b ≤ B) (h4 : b ≤ w.heap.size) : Below b w w1 :=
 ⟨h.os, h.tape, h.output, h.size, fun k hk => by
  have hk' : k < w.heap.size := by omega
  have e : w.heap[k]? = some w.heap[k] := Array.getElem?_eq_getElem hk'
  rw [e]
  exact h.same k _ e (by omega) (by omega) (.inl (by omega))⟩
def diffOf (l m : List Lf) : List ByteArray × Nat := (compOf (sortOf (cmpF 256 (itemsOf l) (itemsOf m) 0).1), (cmpF 256 (itemsOf l) (itemsOf m) 0).2)
set_option maxHeartbeats 1000000 in
theorem Diff_calls (l m : List Lf) (A A2 : Option Addr) (c c2 : Nat) (w : World) (hW : Words w) (hrl : kL.C w A l.length l) (hrm : kL.C w A2 m.length m) (hcl : l.length ≤ c) (hcm : m.length ≤ c2) (hl : SmL l) (hm : SmL m) :
  Calls Tryz.prog 32 #[.slice A l.length c, .slice A2 m.length c2] w fun e w' => ∃ v, e = .returned (.tuple #[v, .int .i64 ((diffOf l m).2 : Int)]) ∧ Kd.string.R 9 w' w.heap.size (fun _ => True) v (diffOf l m).1 ∧ Below w.heap.size w w' := by
 have HIN := Aside0.mk (⟨hW, hrl, hrm, hcl, hcm, hl, hm⟩ : _ ∧ _ ∧ _ ∧ _ ∧ _ ∧ _ ∧ _)
 clear hW hrl hrm hcl hcm hl hm
 obtain ⟨r, hr⟩ : ∃ r, cmpF 256 (itemsOf l) (itemsOf m) 0 = r := ⟨_, rfl⟩
 have hd : diffOf l m = (compOf (sortOf r.1), r.2) := by unfold diffOf; rw [hr]
 rw [hd]
 have hbd := cmpF_bounds 256 (itemsOf l) (itemsOf m) 0
 rw [hr, itemsOf_len, itemsOf_len] at hbd
 have h1 := HIN.out.2.2.2.2.2.1.1
 have h2 := HIN.out.2.2.2.2.2.2.1
 have HR := Aside0.mk (⟨hr, by omega, by omega⟩ : _ ∧ r.1.length ≤ 1000000 ∧ r.2 ≤ 1000000000)
 clear hr hbd hd h1 h2
 go_enter Tryz.func32, Tryz.ntmps32
 go_wp2
 obtain ⟨g, hg⟩ : ∃ g, w.heap.size = g := ⟨_, rfl⟩
 refine wp_named (fun wb hwb => ?_)
 simp only [hg] at hwb ⊢
 have hk0 : wb.heap[g]? = some (.cells #[.slice none 0 0] 36 (0, 0)) := by rw [hwb, h_old (by simp only [size_alloc]; omega), h_old (by simp only [size_alloc]; omega)]; exact h_new hg.symm
 have hp0 : wb.heap[g + 1]? = some (.cells #[.int .i64 0] 3 (0, 0)) := by rw [hwb, h_old (by simp only [size_alloc]; omega)]; exact h_new (by rw [size_alloc]; omega)
 have hc0 : wb.heap[g + 1 + 1]? = some (.cells #[.func (.func 51) #[] #[.pointer (some ⟨g + 1, 0, none⟩), .pointer (some ⟨g, 0, none⟩), .pointer (some ⟨g + 1 + 1, 0, none⟩)]] 101 (0, 0)) := by rw [hwb]; exact h_new (by rw [size_alloc, size_alloc]; omega)
 have hb : Below w.heap.size w wb := by rw [hwb]; exact below_alloc (below_alloc (below_alloc (Below.refl _ _) _) _) _
 have hs : wb.heap.size = g + 3 := by rw [hwb, size_alloc, size_alloc, size_alloc, hg]
 have hst : CmpSt (g + 3) (g + 1) g (g + 1 + 1) 0 [] (.slice none 0 0) wb := ⟨hp0, hk0, hc0, Kd.R_nil _ _ _ _ _, HIN.out.1.below hb, by omega⟩
 have HB := Aside0.mk (⟨hst, hb, hs, hg⟩ : _ ∧ _ ∧ _ ∧ _)
 clear hk0 hp0 hc0 hb hs hst hg hwb
 refine start_ (n := 6) (S := fun w' => Below wb.heap.size wb w') (ds := [5]) #[false, false, false, false, false, false] (by kernel_rfl) rfl rfl (Below.refl _ _).drew (fun hHeld => ?_)
 refine pure_ (i := 1) (N := some 11) (v := ?_) (a' := ?_) #[false, true, false, false, false, false] rfl rfl (by kernel_rfl) (fun _ _ _ h => h) (Or.inl ⟨by rfl, ?_⟩) ?_ ?_
 rotate_left
 ·intro w'
  go_simp
  with_reducible rfl
 rotate_left
 ·simp only [Act.put, lZa, lZb, lZc, i64_w, i32_w]
  rfl
 refine pure_ (i := 3) (N := some 13) (v := ?_) (a' := ?_) #[false, true, false, true, false, false] rfl rfl (by kernel_rfl) (fun _ _ _ h => h) (Or.inl ⟨by rfl, ?_⟩) ?_ ?_
 rotate_left
 ·intro w'
  go_simp
  with_reducible rfl
 rotate_left
 ·simp only [Act.put, lZa, lZb, lZc, i64_w, i32_w]
  rfl
 refine take_ (i := 0) (N := some 10) (v := ?_) (a' := ?_) #[true, true, false, true, false, false] rfl rfl (by kernel_rfl) (fun _ _ _ h => h) (Or.inl ⟨by rfl, ?_⟩) hHeld ?_ ?_
 rotate_left
 ·intro w' hS
  have hx := (HB.out.1.below hS).bc.cell
  go_simp
  with_reducible rfl
 rotate_left
 ·simp only [Act.put, lZa, lZb, lZc, i64_w, i32_w]
  rfl
 refine one_ (i := 2) (N := some 12) #[true, true, true, true, false, false] rfl rfl (by kernel_rfl) (by decide) (fun K hK => ?_)
 refine goes_ Tryz.func35 (by kernel_rfl) rfl #[.slice A l.length c] (by rfl) rfl rfl (by simp only [List.map_toArray, List.map_cons, List.map_nil]; rfl) ?_
 refine (itemsm_calls l A c _ (HB.out.1.words.below hHeld) (Kd.C_below (Kd.C_below HIN.out.2.1 HB.out.2.1) (hHeld.mono (by have := HB.out.2.2.1; have := HB.out.2.2.2; omega))) HIN.out.2.2.2.1 HIN.out.2.2.2.2.2.1.small).mono ?_
 rintro e x3 ⟨v3, rfl, hv3, hb3⟩
 obtain ⟨A3, c3, rfl⟩ := Kd.R_slice hv3
 refine ⟨_, rfl, ?_⟩
 refine hK.out _ _ (below_tr hHeld hb3 hHeld.size) (fun hHeld => ?_)
 clear hK K
 refine norm_ (a' := ?_) ?_ ?_
 rotate_left
 ·show Act.put _ (some 12) _ = _
  simp only [Act.put, lZa, lZb, lZc, i64_w, i32_w]
  rfl
 refine one_ (i := 4) (N := some 14) #[true, true, true, true, true, false] rfl rfl (by kernel_rfl) (by decide) (fun K hK => ?_)
 refine goes_ Tryz.func35 (by kernel_rfl) rfl #[.slice A2 m.length c2] (by rfl) rfl rfl (by simp only [List.map_toArray, List.map_cons, List.map_nil]; rfl) ?_
 refine (itemsm_calls m A2 c2 _ (HB.out.1.words.below hHeld) (Kd.C_below (Kd.C_below HIN.out.2.2.1 HB.out.2.1) (hHeld.mono (by have := HB.out.2.2.1; have := HB.out.2.2.2; omega))) HIN.out.2.2.2.2.1 HIN.out.2.2.2.2.2.2.small).mono ?_
 rintro e x4 ⟨v4, rfl, hv4, hb4⟩
 obtain ⟨A4, c4, rfl⟩ := Kd.R_slice hv4
 refine ⟨_, rfl, ?_⟩
 refine hK.out _ _ (below_tr hHeld hb4 hHeld.size) (fun hHeld => ?_)
 clear hK K
 refine norm_ (a' := ?_) ?_ ?_
 rotate_left
 ·show Act.put _ (some 14) _ = _
  simp only [Act.put, lZa, lZb, lZc, i64_w, i32_w]
  rfl
 have hI := cmp_ind (g + 3) (g + 1) g (g + 1 + 1) (by omega) (by omega) (by omega) (by omega) (by omega) (by omega) 256 0 rfl (by omega) (itemsOf l) (itemsOf m) A3 A4 c3 c4 0 [] (.slice none 0 0) x4 HIN.out.2.2.2.2.2.1.items HIN.out.2.2.2.2.2.2.items
  (Kd.R_below (Kd.R_lower hv3 (Nat.zero_le _)) hb4) (Kd.R_lower hv4 (Nat.zero_le _)) (HB.out.1.below hHeld) (by have := HIN.out.2.2.2.2.2.1.1; have := HIN.out.2.2.2.2.2.2.1; rw [itemsOf_len, itemsOf_len]; simp only [List.length_nil]; omega) (by have := HIN.out.2.2.2.2.2.1.1; rw [itemsOf_len]; omega)
 rw [show 256 - 0 = 256 from rfl, HR.out.1] at hI
 have HI := Aside0.mk hI
 have HH := Aside0.mk hHeld
 clear hI hv3 hv4 hHeld
 refine tail_ 5 (by kernel_rfl) ?_
 simp only [List.toList_toArray, List.drop_succ_cons, List.drop_zero]
 go_wp2_with (first
  | (go_at_call 51; (refine HI.out.mono ?_); rintro e x7 ⟨rfl, v7, hst7, hfr7⟩; have H7 := Aside0.mk (And.intro hst7 hfr7); have hck := hst7.bk.cell; clear hst7 hfr7)
  | (go_at_call 55; (refine (sortS_calls H7.out.1.row (Below.refl _ _) H7.out.1.size (by have := HR.out.2.1; simp only [List.nil_append]; omega)).mono ?_); rintro e x8 ⟨rfl, hr8, hb8, hs8⟩; have H8 := Aside0.mk (⟨hr8, hb8, hs8⟩ : _ ∧ _ ∧ _); clear hr8 hb8 hs8))
 have hck8 : x8.cell? ⟨g, 0, none⟩ = some v7 := (H8.out.2.1.cell (by show g < g + 3; omega)).trans H7.out.1.bk.cell
 have hcp8 : x8.cell? ⟨g + 1, 0, none⟩ = some (.int .i64 (r.2 : Int)) := (H8.out.2.1.cell (by show g + 1 < g + 3; omega)).trans (by have h := H7.out.1.bp.cell; rw [Nat.zero_add] at h; exact h)
 have HC := Aside0.mk (And.intro hck8 hcp8)
 clear hck8 hcp8 hck
 refine start_ (n := 5) (S := fun w' => Below (g + 3) x8 w') (ds := [4]) #[false, false, false, false, false] (by kernel_rfl) rfl rfl (Below.refl _ _).drew (fun hHeld => ?_)
 refine take_ (i := 0) (N := some 18) (v := ?_) (a' := ?_) #[true, false, false, false, false] rfl rfl (by kernel_rfl) (fun _ _ _ h => h) (Or.inl ⟨by rfl, ?_⟩) hHeld ?_ ?_
 rotate_left
 ·intro w' hS
  have hx := (hS.cell (p := ⟨g, 0, none⟩) (by show g < g + 3; omega)).trans HC.out.1
  go_simp
  with_reducible rfl
 rotate_left
 ·simp only [Act.put, lZa, lZb, lZc, i64_w, i32_w]
  rfl
 refine take_ (i := 2) (N := some 20) (v := ?_) (a' := ?_) #[true, false, true, false, false] rfl rfl (by kernel_rfl) (fun _ _ _ h => h) (Or.inl ⟨by rfl, ?_⟩) hHeld ?_ ?_
 rotate_left
 ·intro w' hS
  have hx := (hS.cell (p := ⟨g + 1, 0, none⟩) (by show g + 1 < g + 3; omega)).trans HC.out.2
  go_simp
  with_reducible rfl
 rotate_left
 ·simp only [Act.put, lZa, lZb, lZc, i64_w, i32_w]
  rfl
 refine one_ (i := 1) (N := some 19) #[true, true, true, false, false] rfl rfl (by kernel_rfl) (by decide) (fun K hK => ?_)
 refine goes_ Tryz.func56 (by kernel_rfl) rfl #[v7] (by rfl) rfl rfl (by simp only [List.map_toArray, List.map_cons, List.map_nil]; rfl) ?_
 refine (compS_calls (w0 := x8) (base := g + 3) (Kd.R_drew H8.out.1) hHeld (by have := H8.out.2.2; have := H7.out.1.size; show g + 3 ≤ x8.heap.size; omega) (by have := HR.out.2.1; rw [sortOf_len, List.nil_append]; omega)).mono ?_
 rintro e x9 ⟨v9, rfl, hr9, hb9⟩
 refine ⟨_, rfl, ?_⟩
 refine hK.out _ _ hb9 (fun hHeld => ?_)
 clear hK K
 refine norm_ (a' := ?_) ?_ ?_
 rotate_left
 ·show Act.put _ (some 19) _ = _
  simp only [Act.put, lZa, lZb, lZc, i64_w, i32_w]
  rfl
 refine pure_ (i := 3) (N := some 4) (v := ?_) (a' := ?_) #[true, true, true, true, false] rfl rfl (by kernel_rfl) (fun _ _ _ h => h) (Or.inl ⟨by rfl, ?_⟩) ?_ ?_
 rotate_left
 ·intro w'
  go_simp
  with_reducible rfl
 rotate_left
 ·simp only [Act.put, lZa, lZb, lZc, i64_w, i32_w]
  rfl
 have H9 := Aside0.mk (And.intro hr9 hb9)
 clear hr9 hb9 hHeld
 refine tail_ 4 (by kernel_rfl) ?_
 simp only [List.toList_toArray, List.drop_succ_cons, List.drop_zero]
 go_wp2
 go_ret2
 refine ⟨_, rfl, ?_, ?_⟩
 ·have h := H9.out.1
  rw [List.nil_append] at h
  exact Kd.R_lower h (by have := HB.out.2.2.2; omega)
 ·have e1 := HB.out.2.2.1
  have e2 := HB.out.2.2.2
  rw [e2]
  have b1 : Below g w wb := by have h := HB.out.2.1; rw [e2] at h; exact h
  have b2 : Below g wb x4 := HH.out.mono (by omega)
  have b3 : Below g x4 x7 := H7.out.2.below (by omega) (by omega) (by omega) (by have := HH.out.size; omega)
  exact (((b1.trans b2).trans b3).trans (H8.out.2.1.mono (by omega))).trans (H9.out.2.mono (by omega))
end Go.Proofs.YtanabbjakacgbaaGreatDoor.Sp
namespace Go.Proofs.YtanabbjakacgbaaGreatDoor.Sp
open Go.RowKit Go.Proofs.YtanabbjakacgbaaGreatDoorW.PrintWords Go.Proofs.YtanabbjakacgbaaGreatDoorW.PrintLast Go.Proofs.YtanabbjakacgbaaGreatDoorW.PrintMore Go.Proofs.YtanabbjakacgbaaGreatDoor.PM
set_option linter.unusedVariables false
set_option linter.unusedSimpArgs false
set_option maxRecDepth 100000
attribute [local go_sem] Oper.semAt_some
theorem fill_mid (place : Nat → Option (Nat × Nat)) (i : Nat) (v : Value) (rest : List (Nat × Value)) (A B C : Array Value) (hB : B.size = v.cells.size) (hp : place i = some (A.size, v.cells.size)) :
  Instr.fill place (A ++ B ++ C) ((i, v) :: rest) = Instr.fill place (A ++ v.cells ++ C) rest := by
 rw [fill_step place i A.size v rest _ hp (by simp only [Array.size_append]; omega)]
 congr 1
 apply Array.ext_getElem?
 intro k
 rw [(Great.foldl_set A.size v.cells.toList 0 (A ++ B ++ C)).2 k]
 have hsz : (A ++ B ++ C).size = A.size + B.size + C.size := by simp only [Array.size_append]
 simp only [Nat.zero_add, Nat.add_zero, Nat.sub_zero, Nat.zero_le, true_and, Array.length_toList, Array.getElem?_toList]
 by_cases h1 : k < A.size
 ·rw [if_neg (by omega), Array.getElem?_append_left (by simp only [Array.size_append]; omega), Array.getElem?_append_left (by omega), Array.getElem?_append_left (by simp only [Array.size_append]; omega), Array.getElem?_append_left (by omega)]
 ·by_cases h2 : k < A.size + v.cells.size
  ·rw [if_pos (by omega), Array.getElem?_append_left (by simp only [Array.size_append]; omega), Array.getElem?_append_right (by omega)]
  ·rw [if_neg (by omega), Array.getElem?_append_right (by simp only [Array.size_append]; omega), Array.getElem?_append_right (by simp only [Array.size_append]; omega)]
   simp only [Array.size_append, hB]
structure Ck where
 s : Sm
 i : Bool
 o : Bool
deriving DecidableEq
def cK (x : Ck) : Array Value := cS x.s ++ #[.bool x.i] ++ #[.bool x.o]
def zK : Ck := ⟨zS, false, false⟩
theorem cK_size (x : Ck) : (cK x).size = 34 := by rw [cK, Array.size_append, Array.size_append, cS_size]; rfl
theorem cK_one (x : Ck) : ∀ u ∈ (cK x).toList, u.oneCell' = true := by
 intro u hu
 rw [cK, Array.toList_append, Array.toList_append] at hu
 rcases List.mem_append.1 hu with hu | hu
 ·rcases List.mem_append.1 hu with hu | hu
  ·exact cS_one _ u hu
  ·simp at hu; subst hu; rfl
 ·simp at hu; subst hu; rfl
theorem fill_three (place : Nat → Option (Nat × Nat)) (x y z : Value) (A B C : Array Value) (hA : A.size = x.cells.size) (hB : B.size = y.cells.size) (hC : C.size = z.cells.size)
  (h0 : place 0 = some (0, x.cells.size)) (h1 : place 1 = some (x.cells.size, y.cells.size)) (h2 : place 2 = some (x.cells.size + y.cells.size, z.cells.size)) :
  Instr.fill place (A ++ B ++ C) [(0, x), (1, y), (2, z)] = some (x.cells ++ y.cells ++ z.cells) := by
 have e1 : A ++ B ++ C = #[] ++ A ++ (B ++ C) := by rw [Array.empty_append, Array.append_assoc]
 rw [e1, fill_mid place 0 x _ #[] A (B ++ C) hA h0, Array.empty_append, ← Array.append_assoc, fill_mid place 1 y _ x.cells B C hB h1]
 have e2 : x.cells ++ y.cells ++ C = (x.cells ++ y.cells) ++ C ++ #[] := by rw [Array.append_empty]
 rw [e2, fill_mid place 2 z [] (x.cells ++ y.cells) C #[] hC (by rw [Array.size_append]; exact h2), Array.append_empty]
 rfl
theorem built_K (x : Ck) : Tryz.prog.built 45 [(0, .agg (cS x.s)), (1, .bool x.i), (2, .bool x.o)] = some (cK x) :=
 fill_three (#[(0, 32), (32, 1), (33, 1)][·]?) (.agg (cS x.s)) (.bool x.i) (.bool x.o) (cS zS) #[.bool false] #[.bool false] (by show _ = (cS x.s).size; rw [cS_size, cS_size]) rfl rfl (by show some (0, 32) = some (0, (cS x.s).size); rw [cS_size]) (by show some (32, 1) = some ((cS x.s).size, 1); rw [cS_size]) (by show some (33, 1) = some ((cS x.s).size + 1, 1); rw [cS_size])
theorem part_K0 (w : World) (x : Ck) : (part 30 (cK x) 0).run Tryz.prog w = .ok (.agg (cS x.s)) w := by
 rw [run_part_agg w Tryz.underlying30 rfl (n := 32) (by kernel_rfl), cK, Array.append_assoc, enc_app_l _ _ 32 (cS_size _).symm]
theorem part_K1 (w : World) (x : Ck) : (part 4 (cK x) 32).run Tryz.prog w = .ok (.bool x.i) w := run_part_cell w Tryz.underlying4 rfl (by rw [cK, Array.getElem?_append_left (by rw [Array.size_append, cS_size]; simp), Array.getElem?_append_right (by rw [cS_size]; omega), cS_size]; rfl)
theorem part_K2 (w : World) (x : Ck) : (part 4 (cK x) 33).run Tryz.prog w = .ok (.bool x.o) w := run_part_cell w Tryz.underlying4 rfl (by rw [cK, Array.getElem?_append_right (by rw [Array.size_append, cS_size]; simp), Array.size_append, cS_size]; rfl)
theorem eqK (w : World) (x y : Ck) : (Op.equal 45 (.agg (cK x)) (.agg (cK y))).run Tryz.prog w = .ok (decide (x = y)) w := by
 have h : (Op.equal 45 (.agg (cK x)) (.agg (cK y))).run Tryz.prog w = .ok (decide (x.s = y.s) && ((x.i == y.i) && (x.o == y.o))) w := by
  refine eqA_of Tryz.underlying45 (by kernel_rfl) ?_
  refine eqf_cons (by rfl) (part_K0 w x) (part_K0 w y) (eq_S 9997 w x.s y.s) ?_
  refine eqf_cons (by rfl) (part_K1 w x) (part_K1 w y) (run_equalIn_bool' w 9998 4 _ _ Tryz.underlying4) ?_
  exact eqf_last (by rfl) (part_K2 w x) (part_K2 w y) (run_equalIn_bool' w 9998 4 _ _ Tryz.underlying4)
 rw [h]
 congr 1
 obtain ⟨a, b, c⟩ := x
 obtain ⟨a', b', c'⟩ := y
 simp only [Ck.mk.injEq]
 by_cases h1 : a = a' <;> by_cases h2 : b = b' <;> by_cases h3 : c = c' <;> simp [h1, h2, h3]
theorem gt_K : Tryz.prog.eqGuardType Tryz.prog.depth 45 = false := by kernel_rfl
section
variable {ops : Array Oper} {rest : List Oper} {o : Oper} {a : Act} {Q : Exit → Act → World → Prop} {w : World}
theorem bld_K (hg : o.guard = none) (x y z : Operand) (ho : o.op = .build 45 #[(0, x), (1, y), (2, z)]) (p : Ck) (hx : a.eval x = .agg (cS p.s)) (hy : a.eval y = .bool p.i) (hz : a.eval z = .bool p.o) (h : wpList Tryz.prog ops Q rest (a.put o.dst (.agg (cK p))) w) : wpList Tryz.prog ops Q (o :: rest) a w := by
 refine wpList_built hg 45 _ ho (cK p) ?_ h
 have e : (Array.map (fun x : Nat × Operand => (x.1, a.eval x.2)) #[(0, x), (1, y), (2, z)]).toList = [(0, .agg (cS p.s)), (1, .bool p.i), (2, .bool p.o)] := by simp [hx, hy, hz]
 rw [e]
 exact built_K p
end
def ckOf (root : Sm) (k : ByteArray) (p : List Sm) (e : Int) (l : Lf) : Ck := ⟨(checkB root k p e l).1, (checkB root k p e l).2.1, (checkB root k p e l).2.2⟩
theorem check_calls (root : Sm) (k : ByteArray) (hk1 : k.size ≤ 100000) (A : Option Addr) (p : List Sm) (c : Nat) (hp : p.length ≤ 1000000) (e : Int) (l : Lf) (hl1 : l.k.size ≤ 100000) (w : World) (hW : Words w) (hr : kS.C w A p.length p) :
  Calls Tryz.prog 16 #[.agg (cS root), .string k, .agg (cP (.slice A p.length c) e l)] w fun r w' => r = .returned (.agg (cK (ckOf root k p e l))) ∧ Below w.heap.size w w' := by
 have hu30 := Tryz.underlying45
 obtain ⟨g, hg⟩ : ∃ g, g = w.heap.size := ⟨_, rfl⟩
 obtain ⟨C, hC⟩ : ∃ C, C = cP (.slice A p.length c) e l := ⟨_, rfl⟩
 obtain ⟨wb, hwb⟩ : ∃ wb, ((w.alloc (.cells (cS root) 30)).alloc (.cells C 34)).alloc (.cells (cK zK) 45) = wb := ⟨_, rfl⟩
 have h0 : wb.heap[g]? = some (.cells (cS root) 30 (0, 0)) := by rw [← hwb, h_old (by simp only [size_alloc]; omega), h_old (by simp only [size_alloc]; omega)]; exact h_new hg
 have h1 : wb.heap[g + 1]? = some (.cells (cP (.slice A p.length c) e l) 34 (0, 0)) := by rw [← hwb, ← hC, h_old (by simp only [size_alloc]; omega)]; exact h_new (by rw [size_alloc, hg])
 have h2 : wb.heap[g + 2]? = some (.cells (cK zK) 45 (0, 0)) := by rw [← hwb]; exact h_new (by rw [size_alloc, size_alloc, hg])
 have hb : Below w.heap.size w wb := by rw [← hwb]; exact below_alloc (below_alloc (below_alloc (Below.refl _ _) _) _) _
 have hs : wb.heap.size = g + 3 := by rw [← hwb, size_alloc, size_alloc, size_alloc, hg]
 have hcc := Check_calls root k hk1 A p c hp e l hl1 wb (hW.below hb) (Kd.C_below hr hb)
 have hl1 : (loadVar 30 ⟨g, 0, none⟩).run Tryz.prog wb = .ok (.agg (cS root)) wb := ld_S h0 0
 have hl2 : (loadVar 34 ⟨g + 1, 0, none⟩).run Tryz.prog wb = .ok (.agg C) wb := by rw [hC]; exact ld_P h1 0
 rw [← hC] at hcc ⊢
 obtain ⟨r, hr1⟩ : ∃ r, ckOf root k p e l = r := ⟨_, rfl⟩
 have e1 : (checkB root k p e l).1 = r.s := by rw [← hr1]; rfl
 have e2 : (checkB root k p e l).2.1 = r.i := by rw [← hr1]; rfl
 have e3 : (checkB root k p e l).2.2 = r.o := by rw [← hr1]; rfl
 rw [e1, e2, e3] at hcc
 rw [hr1]
 have HCC := Aside0.mk hcc
 have HB := Aside0.mk (⟨h2, hb, hs, hg⟩ : _ ∧ _ ∧ _ ∧ _)
 have HWB := Aside0.mk hwb
 clear h0 h1 h2 hb hs hwb hcc e1 e2 e3 hr1 hC hr hW hg
 go_enter Tryz.func16, Tryz.ntmps16
 go_wp2_with (first
  | ((with_reducible refine gate_dst (N := 11) rfl ?_); (refine at_world (w' := wb) HWB.out ?_); rw [← HB.out.2.2.2]; (refine wpList_loadv rfl 30 _ rfl _ rfl _ hl1 ?_))
  | ((with_reducible refine gate_dst (N := 13) rfl ?_); (refine wpList_loadv rfl 34 _ rfl _ rfl _ hl2 ?_))
  | (go_at_call 38; (refine HCC.out.mono ?_); rintro e w1 ⟨rfl, hb1⟩; have H1 := Aside0.mk hb1; clear hb1)
  | ((with_reducible refine gate_store (t := 30) rfl ?_); (refine wpList_store_row rfl 30 (.tmp 7) (.tmp 15) rfl w1.heap.size (cS r.s) rfl rfl 30 (cS zS) (h_new rfl) (by rw [cS_size]; kernel_rfl) (by rw [cS_size, cS_size]) (encI_one _) ?_); generalize hwv : World.setRow _ w1.heap.size (cS r.s) = wv; have hv1 : wv.heap[w1.heap.size]? = some (.cells (cS r.s) 30 (0, 0)) := (by rw [← hwv]; exact setRow_heap _ _ _ _ _ _ (h_new rfl)); have hvb : Below w1.heap.size w1 wv := (by rw [← hwv]; exact below_setRow (below_alloc (Below.refl _ _) _) (Nat.le_refl _)); clear hwv; have hl3 := ld_S hv1; have HV := Aside0.mk (And.intro hv1 hvb); clear hv1 hvb)
  | ((with_reducible refine gate_dst (N := 18) rfl ?_); (refine wpList_loadv rfl 30 _ rfl _ rfl _ (hl3 0) ?_))
  | (refine bld_K rfl _ _ _ rfl r rfl rfl rfl ?_)
  | ((with_reducible refine gate_store (t := 45) rfl ?_); (refine wpList_store_row rfl 45 (.tmp 6) (.tmp 21) rfl (g + 2) (cK r) rfl rfl 45 (cK zK) ((HV.out.2.block _ (by have := H1.out.size; have := HB.out.2.2.1; omega)).trans ((H1.out.block _ (by have := HB.out.2.2.1; omega)).trans HB.out.1)) (by rw [cK_size]; kernel_rfl) (by rw [cK_size, cK_size]) (all_one (cK_one _)) ?_)))
 have hbf : Below w.heap.size w (wv.setRow (g + 2) (cK r)) := below_setRow (HB.out.2.1.trans ((H1.out.trans (HV.out.2.mono H1.out.size)).mono (by have := HB.out.2.1.size; omega))) (by have := HB.out.2.2.2; omega)
 refine bodyPost_ret (v := .agg (cK r)) ?_ rfl ⟨rfl, hbf⟩
 exact results_cell_row rfl _ _ (g + 2) 45 _ (0, 0) _ rfl (setRow_heap _ _ _ _ _ _ ((HV.out.2.block _ (by have := H1.out.size; have := HB.out.2.2.1; omega)).trans ((H1.out.block _ (by have := HB.out.2.2.1; omega)).trans HB.out.1))) hu30 rfl (by rw [cK_size]; kernel_rfl)
def cF (v : Value) (n : Int) (h : Bool) : Array Value := #[v, .int .i64 n, .bool h]
theorem built_F (v : Value) (hv : v.cells.size = 1) (n : Int) : Tryz.prog.built 38 [(0, v), (1, .int .i64 n)] = some (v.cells ++ #[.int .i64 n] ++ #[.bool false]) := by
 show Instr.fill (#[(0, 1), (1, 1), (2, 1)][·]?) (#[] ++ #[.slice none 0 0] ++ (#[.int .i64 0] ++ #[.bool false])) _ = _
 rw [fill_mid _ 0 v _ #[] #[.slice none 0 0] _ hv.symm (by show some (0, 1) = some (0, v.cells.size); rw [hv]), Array.empty_append, ← Array.append_assoc, fill_mid _ 1 (.int .i64 n) _ v.cells #[.int .i64 0] #[.bool false] rfl (by show some (1, 1) = some (v.cells.size, 1); rw [hv])]
 rfl
section
variable {ops : Array Oper} {rest : List Oper} {o : Oper} {a : Act} {Q : Exit → Act → World → Prop} {w : World}
theorem bld_F (hg : o.guard = none) (x y : Operand) (ho : o.op = .build 38 #[(0, x), (1, y)]) (A : Option Addr) (m c : Nat) (n : Int) (hx : a.eval x = .slice A m c) (hy : a.eval y = .int .i64 n) (h : wpList Tryz.prog ops Q rest (a.put o.dst (.agg (cF (.slice A m c) n false))) w) : wpList Tryz.prog ops Q (o :: rest) a w := by
 refine wpList_built hg 38 _ ho (cF (.slice A m c) n false) ?_ h
 have e : (Array.map (fun x : Nat × Operand => (x.1, a.eval x.2)) #[(0, x), (1, y)]).toList = [(0, .slice A m c), (1, .int .i64 n)] := by simp [hx, hy]
 rw [e]
 exact built_F _ rfl n
end
theorem diff_calls (l m : List Lf) (A A2 : Option Addr) (c c2 : Nat) (w : World) (hW : Words w) (hrl : kL.C w A l.length l) (hrm : kL.C w A2 m.length m) (hcl : l.length ≤ c) (hcm : m.length ≤ c2) (hl : SmL l) (hm : SmL m) :
  Calls Tryz.prog 8 #[.slice A l.length c, .slice A2 m.length c2] w fun e w' => ∃ A' c', e = .returned (.agg (cF (.slice A' (diffOf l m).1.length c') (diffOf l m).2 false)) ∧ Kd.string.R 9 w' w.heap.size (fun _ => True) (.slice A' (diffOf l m).1.length c') (diffOf l m).1 ∧ Below w.heap.size w w' := by
 have hu56 := Tryz.underlying38
 obtain ⟨g, hg⟩ : ∃ g, g = w.heap.size := ⟨_, rfl⟩
 obtain ⟨wb, hwb⟩ : ∃ wb, w.alloc (.cells #[.slice none 0 0, .int .i64 0, .bool false] 38) = wb := ⟨_, rfl⟩
 have h0 : wb.heap[g]? = some (.cells (cF (.slice none 0 0) 0 false) 38 (0, 0)) := by rw [← hwb]; exact h_new hg
 have hb : Below w.heap.size w wb := by rw [← hwb]; exact below_alloc (Below.refl _ _) _
 have hs : wb.heap.size = g + 1 := by rw [← hwb, size_alloc, hg]
 have hdc := Diff_calls l m A A2 c c2 wb (hW.below hb) (Kd.C_below hrl hb) (Kd.C_below hrm hb) hcl hcm hl hm
 obtain ⟨r, hr⟩ : ∃ r, diffOf l m = r := ⟨_, rfl⟩
 rw [hr] at hdc ⊢
 have HB := Aside0.mk (⟨h0, hb, hs, hg⟩ : _ ∧ _ ∧ _ ∧ _)
 have HDC := Aside0.mk hdc
 have HWB := Aside0.mk hwb
 clear h0 hb hs hwb hg hdc hr hrl hrm hcl hcm hl hm hW
 go_enter Tryz.func8, Tryz.ntmps8
 go_wp2_with (first
  | (go_at_call 32; rw [HWB.out, ← HB.out.2.2.2]; (refine HDC.out.mono ?_); rintro e w1 ⟨v1, rfl, hr1, hb1⟩; obtain ⟨A1, c1, rfl⟩ := Kd.R_slice hr1; have H1 := Aside0.mk (And.intro hr1 hb1); clear hr1 hb1)
  | (refine bld_F rfl _ _ rfl A1 r.1.length c1 r.2 rfl rfl ?_)
  | ((with_reducible refine gate_store (t := 38) rfl ?_); (refine wpList_store_row rfl 38 (.tmp 4) (.tmp 15) rfl g (cF (.slice A1 r.1.length c1) r.2 false) rfl rfl 38 (cF (.slice none 0 0) 0 false) ((H1.out.2.block _ (by have := HB.out.2.2.1; omega)).trans HB.out.1) (by kernel_rfl) rfl (all_one (by intro u hu; simp [cF] at hu; rcases hu with rfl | rfl | rfl <;> rfl)) ?_)))
 have hbf : Below w.heap.size w (w1.setRow g (cF (.slice A1 r.1.length c1) r.2 false)) := below_setRow (HB.out.2.1.trans (H1.out.2.mono (by have := HB.out.2.1.size; omega))) (by have := HB.out.2.2.2; omega)
 have hrf : Kd.string.R 9 (w1.setRow g (cF (.slice A1 r.1.length c1) r.2 false)) w.heap.size (fun _ => True) (.slice A1 r.1.length c1) r.1 := Kd.R_lower (R_setRow H1.out.1 (by have := HB.out.2.2.1; omega) _) (by have := HB.out.2.1.size; omega)
 refine bodyPost_ret (v := .agg (cF (.slice A1 r.1.length c1) r.2 false)) ?_ rfl ⟨A1, c1, rfl, hrf, hbf⟩
 exact results_cell_row rfl _ _ g 38 _ (0, 0) _ rfl (setRow_heap _ _ _ _ _ _ ((H1.out.2.block _ (by have := HB.out.2.2.1; omega)).trans HB.out.1)) hu56 rfl (by kernel_rfl)
end Go.Proofs.YtanabbjakacgbaaGreatDoor.Sp
namespace Go.Proofs.YtanabbjakacgbaaGreatDoor.Sp
open Go.RowKit Go.Proofs.YtanabbjakacgbaaGreatDoorW.PrintWords Go.Proofs.YtanabbjakacgbaaGreatDoorW.PrintLast Go.Proofs.YtanabbjakacgbaaGreatDoorW.PrintMore Go.Proofs.YtanabbjakacgbaaGreatDoor.PM
set_option linter.unusedVariables false
set_option linter.unusedSimpArgs false
set_option maxRecDepth 100000
theorem wpList_wanted {P : Program} {ops : Array Oper} {rest : List Oper} {o : Oper} {a : Act} {w : World} {Q : Exit → Act → World → Prop} (hw : Region.wanted o (yielded ops a.tmps) = true) (h : wpList P ops Q ({ o with guard := none } :: rest) a w) : wpList P ops Q (o :: rest) a w := by
 cases o
 unfold wpList at h ⊢
 rw [if_pos hw]
 rw [if_pos (show Region.wanted _ _ = true from rfl)] at h
 exact h
theorem ba_beq (a b : ByteArray) : (a.toList == b.toList) = decide (a = b) := by
 by_cases h : a = b
 ·subst h; simp
 ·have : ¬ a.toList = b.toList := fun e => h (by
   have := congrArg (fun l : List UInt8 => (⟨l.toArray⟩ : ByteArray)) e
   have h2 : a.data = b.data := by simpa [ByteArray.toList_eq] using this
   exact ByteArray.ext h2)
  simp [h, this]
theorem str_at {w : World} {ok : Nat → Prop} {B c : Nat} {A : Option Addr} {ks : List ByteArray} (h : Kd.string.R 9 w B ok (.slice A ks.length c) ks) (n : Nat) (hn : n < ks.length) :
  ∃ g, A = some ⟨g, 0, none⟩ ∧ w.cell? ⟨g, n, none⟩ = some (.string (ks.getD n ByteArray.empty)) := by
 obtain ⟨g, cap, e, _, _, _⟩ := Kd.R_form h (by omega)
 injection e with e1 e2 e3
 subst e1 e3
 have h2 := (Kd.R_cell ByteArray.empty h (n : Int) (by omega) (by omega)).1
 rw [Int.toNat_natCast] at h2
 exact ⟨g, rfl, by rw [h2]; unfold rdOf; rw [Int.toNat_natCast]⟩
set_option maxHeartbeats 1000000 in
theorem SameKeys_calls (l r : List ByteArray) (A A2 : Option Addr) (c c2 B B2 : Nat) (ok ok2 : Nat → Prop) (w : World) (hr : Kd.string.R 9 w B ok (.slice A l.length c) l) (hr2 : Kd.string.R 9 w B2 ok2 (.slice A2 r.length c2) r) (hl : l.length ≤ 10000000) (hl2 : r.length ≤ 10000000) :
  Calls Tryz.prog 14 #[.slice A l.length c, .slice A2 r.length c2] w fun e w' => e = .returned (.bool (decide (l = r))) ∧ Below w.heap.size w w' := by
 have HS := Aside0.mk hr
 have HT := Aside0.mk hr2
 clear hr hr2
 go_enter Tryz.func14, Tryz.ntmps14
 by_cases hlen : l.length = r.length
 ·have hlb : ((l.length : Int) == (r.length : Int)) = true := by simp [hlen]
  have hlb2 : ((l.length : Int) != (r.length : Int)) = false := by simp [hlen]
  go_wp2
  go_loopw [5] (fun i wr => ∃ n : Nat, i = .int .i64 (n : Int) ∧ n ≤ l.length ∧ Aside0 (l.take n = r.take n) ∧ Aside0 (Below w.heap.size w wr)) (fun i _ => l.length - (intOf i).toNat)
  case atStart => exact ⟨0, rfl, by omega, ⟨rfl⟩, ⟨Below.refl _ _⟩⟩
  case round =>
   obtain ⟨n, rfl, hn, HV, HR⟩ := hrel
   by_cases c5 : n < l.length
   ·have c5b : (n : Int) < (l.length : Int) := by omega
    obtain ⟨g1, eA, hc1⟩ := str_at (Kd.R_below HS.out HR.out) n c5
    subst eA
    obtain ⟨g2, eA2, hc2⟩ := str_at (Kd.R_below HT.out HR.out) n (by omega)
    subst eA2
    obtain ⟨a, ha⟩ : ∃ a, a = l.getD n ByteArray.empty := ⟨_, rfl⟩
    obtain ⟨b, hb⟩ : ∃ b, b = r.getD n ByteArray.empty := ⟨_, rfl⟩
    rw [← ha] at hc1
    rw [← hb] at hc2
    have c5c := eq_true c5b
    have c5d : ((0 : Int) ≤ (n : Int)) = True := eq_true (by omega)
    have c6c : ((n : Int) < (r.length : Int)) = True := eq_true (by omega)
    have HAB := Aside0.mk (And.intro ha hb)
    clear ha hb
    go_wp2
    refine wp_region_quiet_lit (by kernel_rfl) (by kernel_rfl) ?_
    repeat (go_big_quiet_step (fail))
    refine wpQuiet_nil ?_
    rintro _ ⟨nq, rfl⟩
    have HR2 := Aside0.mk (below_drewN HR.out nq)
    clear hc1 hc2
    generalize wr.drewN nq = wq at HR2 ⊢
    rw [ba_beq]
    by_cases hab : a = b
    ·have hbb : decide (a = b) = true := by simp [hab]
     rw [hbb]
     go_wp2
     refine ⟨⟨n + 1, by simp, by omega, ⟨?_⟩, HR2⟩, by simp [intOf]; omega⟩
     rw [take_succ' ByteArray.empty c5, take_succ' ByteArray.empty (by omega : n < r.length), HV.out, ← HAB.out.1, ← HAB.out.2, hab]
    ·have hne : ¬ l = r := fun e => hab (by rw [HAB.out.1, HAB.out.2, e])
     have hbb : decide (a = b) = false := by simp [hab]
     rw [hbb]
     go_wp2
     go_ret
     exact ⟨by simp [hne], HR2.out⟩
   ·obtain rfl : n = l.length := by omega
    have he : l = r := by
     have h := HV.out
     rw [List.take_length, hlen, List.take_length] at h
     exact h
    go_wp2
    go_ret
    exact ⟨by simp [he], HR.out⟩
 ·have hne : ¬ l = r := fun e => hlen (by rw [e])
  have hlb : ¬ ((l.length : Int) = (r.length : Int)) := by omega
  go_wp2
  go_ret
  exact ⟨by simp [hne], Below.refl _ _⟩
set_option maxHeartbeats 2000000 in
theorem SameProof_calls (p r : List Sm) (e e2 : Int) (l l2 : Lf) (A A2 : Option Addr) (c c2 : Nat) (w : World) (hr : kS.C w A p.length p) (hr2 : kS.C w A2 r.length r) (hl : p.length ≤ 1000000) (hl2 : r.length ≤ 1000000) (hc : p.length ≤ c) (hc2 : r.length ≤ c2) :
  Calls Tryz.prog 12 #[.agg (cP (.slice A p.length c) e l), .agg (cP (.slice A2 r.length c2) e2 l2)] w fun x w' => x = .returned (.bool (decide (p = r ∧ e = e2 ∧ l = l2))) ∧ Below w.heap.size w w' := by
 obtain ⟨g, hg⟩ : ∃ g, g = w.heap.size := ⟨_, rfl⟩
 obtain ⟨C1, hC1⟩ : ∃ C, C = cP (.slice A p.length c) e l := ⟨_, rfl⟩
 obtain ⟨C2, hC2⟩ : ∃ C, C = cP (.slice A2 r.length c2) e2 l2 := ⟨_, rfl⟩
 obtain ⟨wb, hwb⟩ : ∃ wb, (w.alloc (.cells C1 34)).alloc (.cells C2 34) = wb := ⟨_, rfl⟩
 have h0 : wb.heap[g]? = some (.cells (cP (.slice A p.length c) e l) 34 (0, 0)) := by rw [← hwb, ← hC1, h_old (by simp only [size_alloc]; omega)]; exact h_new hg
 have h1 : wb.heap[g + 1]? = some (.cells (cP (.slice A2 r.length c2) e2 l2) 34 (0, 0)) := by rw [← hwb, ← hC2]; exact h_new (by rw [size_alloc, hg])
 have hb : Below w.heap.size w wb := by rw [← hwb]; exact below_alloc (below_alloc (Below.refl _ _) _) _
 have HB := Aside0.mk (⟨hb, Kd.C_below hr hb, Kd.C_below hr2 hb, hwb, hg⟩ : _ ∧ _ ∧ _ ∧ _ ∧ _)
 have k0 := cell_P0 h0
 have k1 := cell_P1 h0
 have m0 := cell_P0 h1
 have m1 := cell_P1 h1
 have hle1 : (loadVar 32 ⟨g, 2, none⟩).run Tryz.prog wb = .ok (.agg (cL l)) wb := le_L (cells_P2 h0) (Below.refl _ _) 0
 have hle2 : (loadVar 32 ⟨g + 1, 2, none⟩).run Tryz.prog wb = .ok (.agg (cL l2)) wb := le_L (cells_P2 h1) (Below.refl _ _) 0
 have HK := Aside0.mk (And.intro k0 m0)
 rw [← hC1, ← hC2]
 clear h0 h1 hb hwb hr hr2 hC1 hC2 hg
 go_enter Tryz.func12, Tryz.ntmps12
 by_cases hlen : p.length = r.length
 ·have hlb2 : ((p.length : Int) != (r.length : Int)) = false := by simp [hlen]
  by_cases he : e = e2
  ·have heb : (e != e2) = false := by simp [he]
   by_cases hll : l = l2
   ·go_wp2_with (first
     | ((with_reducible refine gate_dst (N := 6) rfl ?_); (refine at_world (w' := wb) HB.out.2.2.2.1 ?_); rw [← HB.out.2.2.2.2])
     | ((with_reducible refine gate_dst (N := 22) rfl ?_); refine wpList_wanted (by rfl) ?_; refine wpList_loadv rfl _ _ rfl _ rfl _ hle1 ?_)
     | ((with_reducible refine gate_dst (N := 24) rfl ?_); refine wpList_wanted (by rfl) ?_; refine wpList_loadv rfl _ _ rfl _ rfl _ hle2 ?_)
     | ((with_reducible refine gate_dst (N := 25) rfl ?_); refine wpList_wanted (by rfl) ?_; refine wpList_neq rfl _ _ _ _ rfl _ _ rfl rfl gt_L _ (fun w => eqL w _ _) ?_))
    clear k0 m0 k1 m1 hle1 hle2
    go_loopw [5] (fun i wr => ∃ n : Nat, i = .int .i64 (n : Int) ∧ n ≤ p.length ∧ Aside0 (p.take n = r.take n) ∧ Aside0 (Below wb.heap.size wb wr)) (fun i _ => p.length - (intOf i).toNat)
    case atStart => exact ⟨0, rfl, by omega, ⟨rfl⟩, ⟨Below.refl _ _⟩⟩
    case round =>
     obtain ⟨n, rfl, hn, HV, HR⟩ := hrel
     have k0 := (HR.out.cell (World.block_lt_of_cell? _ _ HK.out.1)).trans HK.out.1
     have m0 := (HR.out.cell (World.block_lt_of_cell? _ _ HK.out.2)).trans HK.out.2
     by_cases c5 : n < p.length
     ·have c5b : (n : Int) < (p.length : Int) := by omega
      obtain ⟨ad, eA, hat⟩ := at_S HB.out.2.1 n c5
      subst eA
      obtain ⟨ad2, eA2, hat2⟩ := at_S HB.out.2.2.1 n (by omega)
      subst eA2
      obtain ⟨a, ha⟩ : ∃ a, a = p.getD n zS := ⟨_, rfl⟩
      obtain ⟨b, hb⟩ : ∃ b, b = r.getD n zS := ⟨_, rfl⟩
      rw [← ha] at hat
      rw [← hb] at hat2
      have hl1 := le_S hat HR.out
      have hl3 := le_S hat2 HR.out
      have c5c := eq_true c5b
      have c5d : ((0 : Int) ≤ (n : Int)) = True := eq_true (by omega)
      have c6c : ((n : Int) < (r.length : Int)) = True := eq_true (by omega)
      have HAB := Aside0.mk (And.intro ha hb)
      clear ha hb hat hat2
      go_wp2
      refine wp_region_quiet_lit (by kernel_rfl) (by kernel_rfl) ?_
      repeat (first
       | (refine wpQuiet_load (fun _ h => h) rfl _ _ rfl _ rfl _ (by first | exact hl1 | exact hl3) _ rfl ?_; simp only [Act.put, lZa, lZb, lZc])
       | (refine wpQuiet_eql rfl _ _ _ _ rfl _ _ rfl rfl gt_L _ (fun w => eqL w _ _) _ rfl ?_; simp only [Act.put, lZa, lZb, lZc])
       | (refine wpQuiet_neq rfl _ _ _ _ rfl _ _ rfl rfl gt_L _ (fun w => eqL w _ _) _ rfl ?_; simp only [Act.put, lZa, lZb, lZc])
       | (refine wpQuiet_eql rfl _ _ _ _ rfl _ _ rfl rfl gt_S _ (fun w => eqS w _ _) _ rfl ?_; simp only [Act.put, lZa, lZb, lZc])
       | (refine wpQuiet_neq rfl _ _ _ _ rfl _ _ rfl rfl gt_S _ (fun w => eqS w _ _) _ rfl ?_; simp only [Act.put, lZa, lZb, lZc])
       | (refine wpQuiet_eql rfl _ _ _ _ rfl _ _ rfl rfl gt_I _ (fun w => eqI w _ _) _ rfl ?_; simp only [Act.put, lZa, lZb, lZc])
       | (refine wpQuiet_neq rfl _ _ _ _ rfl _ _ rfl rfl gt_I _ (fun w => eqI w _ _) _ rfl ?_; simp only [Act.put, lZa, lZb, lZc])
       | (refine wpQuiet_field rfl _ _ _ rfl _ rfl _ (fun w => by first | exact fld_L0 w _ | exact fld_L1 w _ | exact fld_I0 w _ | exact fld_I1 w _ | exact fld_J0 w _ | exact fld_J1 w _) _ rfl ?_; simp only [Act.put, lZa, lZb, lZc])
       | (go_big_quiet_step (fail)))
      refine wpQuiet_nil ?_
      rintro _ ⟨nq, rfl⟩
      have HR2 := Aside0.mk (below_drewN HR.out nq)
      clear hl1 hl3 k0 m0
      generalize wr.drewN nq = wq at HR2 ⊢
      by_cases hab : a = b
      ·have hbb : decide (a = b) = true := by simp [hab]
       go_wp2
       ·rename_i h9
        exact absurd h9 (by simp [hab])
       refine ⟨⟨n + 1, by simp, by omega, ⟨?_⟩, HR2⟩, by simp [intOf]; omega⟩
       rw [take_succ' zS c5, take_succ' zS (by omega : n < r.length), HV.out, ← HAB.out.1, ← HAB.out.2, hab]
      ·have hne : ¬ p = r := fun e => hab (by rw [HAB.out.1, HAB.out.2, e])
       go_wp2
       ·go_ret
        exact ⟨by simp [hne], HB.out.1.trans (HR2.out.mono HB.out.1.size)⟩
       ·rename_i h9
        exact absurd h9 (by simp [hab])
     ·obtain rfl : n = p.length := by omega
      have hpe : p = r := by
       have h := HV.out
       rw [List.take_length, hlen, List.take_length] at h
       exact h
      go_wp2
      go_ret
      exact ⟨by simp [hpe, he, hll], HB.out.1.trans (HR.out.mono HB.out.1.size)⟩
   ·go_wp2_with (first
     | ((with_reducible refine gate_dst (N := 6) rfl ?_); (refine at_world (w' := wb) HB.out.2.2.2.1 ?_); rw [← HB.out.2.2.2.2])
     | ((with_reducible refine gate_dst (N := 22) rfl ?_); refine wpList_wanted (by rfl) ?_; refine wpList_loadv rfl _ _ rfl _ rfl _ hle1 ?_)
     | ((with_reducible refine gate_dst (N := 24) rfl ?_); refine wpList_wanted (by rfl) ?_; refine wpList_loadv rfl _ _ rfl _ rfl _ hle2 ?_)
     | ((with_reducible refine gate_dst (N := 25) rfl ?_); refine wpList_wanted (by rfl) ?_; refine wpList_neq rfl _ _ _ _ rfl _ _ rfl rfl gt_L _ (fun w => eqL w _ _) ?_))
    go_ret
    exact ⟨by simp [hll], HB.out.1⟩
  ·have heb : (e != e2) = true := by simp [he]
   go_wp2_with (first
     | ((with_reducible refine gate_dst (N := 6) rfl ?_); (refine at_world (w' := wb) HB.out.2.2.2.1 ?_); rw [← HB.out.2.2.2.2]))
   go_ret
   exact ⟨by simp [he], HB.out.1⟩
 ·have hlb : ¬ ((p.length : Int) = (r.length : Int)) := by omega
  have hne : ¬ p = r := fun e => hlen (by rw [e])
  go_wp2_with (first
     | ((with_reducible refine gate_dst (N := 6) rfl ?_); (refine at_world (w' := wb) HB.out.2.2.2.1 ?_); rw [← HB.out.2.2.2.2]))
  go_ret
  exact ⟨by simp [hne], HB.out.1⟩
end Go.Proofs.YtanabbjakacgbaaGreatDoor.Sp
namespace Go.Proofs.YtanabbjakacgbaaGreatDoor.Sp
open Go.RowKit Go.Proofs.YtanabbjakacgbaaGreatDoorW.PrintWords Go.Proofs.YtanabbjakacgbaaGreatDoorW.PrintLast Go.Proofs.YtanabbjakacgbaaGreatDoorW.PrintMore Go.Proofs.YtanabbjakacgbaaGreatDoor.PM
set_option linter.unusedVariables false
set_option linter.unusedSimpArgs false
set_option maxRecDepth 100000
theorem ends_short {l : List It} (h : l.length ≤ 1) (d : Nat) : endsOf l d = true := by simp [endsOf, h]
theorem hash_nil (d : Nat) (hd : d ≤ 256) : hashOf [] d = zS := by rw [hashOf_eq _ _ hd]; rfl
theorem hash_one (y : It) (d : Nat) (hd : d ≤ 256) : hashOf [y] d = leafH y.x := by
 rw [hashOf_eq _ _ hd, if_neg (by simp), if_pos (ends_short (by simp) d)]
 rfl
theorem prove_nil (k : ByteArray) : proveOf [] k = ⟨[], 0, zL⟩ := by
 have h : wayOf (itemsOf []) (hk k) = ([], []) := wayF_end _ (ends_short (by simp [itemsOf]) _) _
 rw [proveOf, h]; rfl
theorem prove_one (x : Lf) (k : ByteArray) : proveOf [x] k = ⟨[], if x.k = k then 1 else 2, x⟩ := by
 have h : wayOf (itemsOf [x]) (hk k) = ([], [itemOf x]) := wayF_end _ (ends_short (by simp [itemsOf]) _) _
 rw [proveOf, h]; rfl
theorem root_nil : hashOf (itemsOf []) 0 = zS := hash_nil 0 (by omega)
theorem root_one (x : Lf) : hashOf (itemsOf [x]) 0 = leafH x := hash_one (itemOf x) 0 (by omega)
theorem ck_nil (k : ByteArray) : ckOf zS k [] 0 zL = ⟨zS, false, true⟩ := by
 have h : rightB k 0 0 zL = true := by simp [rightB]
 have h2 : topOf k [] 0 zL = zS := rfl
 have : checkB zS k [] 0 zL = (zS, false, true) := by rw [checkB, List.length_nil, h, h2]; simp
 rw [ckOf, this]
theorem ck_other {x : Lf} {k : ByteArray} (hx : ¬ x.k = k) : ckOf (leafH x) k [] 2 x = ⟨zS, false, true⟩ := by
 have h : rightB k 0 2 x = true := by simp [rightB, agree, hx]
 have h2 : topOf k [] 2 x = leafH x := rfl
 have : checkB (leafH x) k [] 2 x = (zS, false, true) := by rw [checkB, List.length_nil, h, h2]; simp
 rw [ckOf, this]
theorem ck_not {x : Lf} {k : ByteArray} (hx : x.k = k) (r : Sm) (p : List Sm) : ckOf r k p 2 x = zK := by
 have h : rightB k p.length 2 x = false := by simp [rightB, hx]
 have : checkB r k p 2 x = (zS, false, false) := by rw [checkB, if_pos h]
 rw [ckOf, this]; rfl
theorem ck_same {x : Lf} {k : ByteArray} (hx : x.k = k) : ckOf (leafH x) k [] 1 x = ⟨x.v, true, true⟩ := by
 have h : rightB k 0 1 x = true := by simp [rightB, hx]
 have h2 : topOf k [] 1 x = leafH x := rfl
 have : checkB (leafH x) k [] 1 x = (x.v, true, true) := by rw [checkB, List.length_nil, h, h2]; simp
 rw [ckOf, this]
theorem comp_nil : compOf (sortOf []) = [] := by simp [compOf, sortOf, Go.Lib.compact, Go.Lib.compactUpTo]
theorem comp_one (k : ByteArray) : compOf (sortOf [k]) = [k] := by
 simp [compOf, sortOf, Go.Lib.compact, Go.Lib.compactUpTo, Go.Lib.keeps, lb_bl]
theorem diff_same (l : List Lf) : diffOf l l = ([], 1) := by rw [diffOf, cmpF_same rfl, comp_nil]
theorem diff_nil {x : Lf} (hx : ¬ leafH x = zS) : diffOf [] [x] = ([x.k], 1) := by
 have h : cmpF 256 (itemsOf []) (itemsOf [x]) 0 = ([x.k], 1) := by
  rw [cmpF_end (.inl (ends_short (by simp [itemsOf]) _)) (by rw [root_nil, root_one]; exact fun e => hx e.symm)]
  simp [itemsOf, onlyK, itemOf]
 rw [diffOf, h, comp_one]
theorem valid_one (x : Lf) : validB [x] = true := by simp [validB]
theorem blt_irrefl (k : ByteArray) : blt k k = false := by
 have h := bl_tri k.toList k.toList
 rw [blt]
 cases e : Op.bytesLess k.toList k.toList
 ·rfl
 ·rw [e] at h; simp at h
theorem valid_two (x : Lf) : validB [x, x] = false := validB_f 0 (by simp) (blt_irrefl x.k)
def sB (b : Int) : Sm := if h : 0 ≤ b ∧ b < 256 then ⟨b :: List.replicate 31 0, rfl, fun x hx => by
 rcases List.mem_cons.1 hx with rfl | hx
 ·exact h
 ·rw [List.mem_replicate] at hx; omega⟩ else zS
theorem leaf_ne : ¬ leafH ⟨⟨#[97]⟩, sB 7⟩ = zS := by
 intro e
 have h : (leafH ⟨⟨#[97]⟩, sB 7⟩).b.head? = zS.b.head? := by rw [e]
 rw [leafH, hof_b] at h
 have hb : bytesOf ⟨#[97]⟩ = [97] := by decide
 have h7 : (sB 7).b = 7 :: List.replicate 31 0 := by decide
 rw [hb, h7] at h
 revert h
 decide +kernel
theorem SmL_nil : SmL [] := ⟨by simp, by simp⟩
theorem SmL_one {x : Lf} (h : x.k.size ≤ 100000) : SmL [x] := ⟨by simp, by simpa using h⟩
theorem ProveNil_calls (k : ByteArray) (hk1 : k.size ≤ 100000) (w : World) (hW : Words w) (y0 : Lf) (hy : y0 = zL) :
  Calls Tryz.prog 13 #[.slice none 0 0, .string k] w fun e w' => ∃ A c C, C = cP (.slice A 0 c) 0 y0 ∧ e = .returned (.agg C) ∧ kS.C w' A 0 [] ∧ Below w.heap.size w w' := by
 refine (Provem_calls [] k none 0 w hW (Kd.C_nil _ _) (Nat.le_refl _) SmL_nil hk1).mono ?_
 rw [prove_nil]
 rintro e w' ⟨A, c, rfl, h1, _, h3⟩
 exact ⟨A, c, _, rfl, by rw [hy]; rfl, h1, h3⟩
theorem ProveOne_calls (x : Lf) (k : ByteArray) (hx : x.k.size ≤ 100000) (hk1 : k.size ≤ 100000) (A : Option Addr) (c : Nat) (w : World) (hW : Words w) (hr : kL.C w A 1 [x]) (hc : 1 ≤ c) (i : Int) (hi : (if x.k = k then (1 : Int) else 2) = i) :
  Calls Tryz.prog 13 #[.slice A 1 c, .string k] w fun e w' => ∃ A c C, C = cP (.slice A 0 c) i x ∧ e = .returned (.agg C) ∧ kS.C w' A 0 [] ∧ Below w.heap.size w w' := by
 refine (Provem_calls [x] k A c w hW hr hc (SmL_one hx) hk1).mono ?_
 rw [prove_one, hi]
 rintro e w' ⟨A, c, rfl, h1, _, h3⟩
 exact ⟨A, c, _, rfl, rfl, h1, h3⟩
theorem DiffNil_calls (x : Lf) (hx : x.k.size ≤ 100000) (hne : ¬ leafH x = zS) (A : Option Addr) (c : Nat) (w : World) (hW : Words w) (hr : kL.C w A 1 [x]) (hc : 1 ≤ c) :
  Calls Tryz.prog 8 #[.slice none 0 0, .slice A 1 c] w fun e w' => ∃ A' c' C, C = cF (.slice A' 1 c') 1 false ∧ e = .returned (.agg C) ∧ Kd.string.R 9 w' w.heap.size (fun _ => True) (.slice A' 1 c') [x.k] ∧ Below w.heap.size w w' := by
 refine (diff_calls [] [x] none A 0 c w hW (Kd.C_nil _ _) hr (Nat.le_refl _) hc SmL_nil (SmL_one hx)).mono ?_
 rw [diff_nil hne]
 rintro e w' ⟨A', c', rfl, h1, h2⟩
 exact ⟨A', c', _, rfl, rfl, h1, h2⟩
theorem DiffOne_calls (x : Lf) (hx : x.k.size ≤ 100000) (A : Option Addr) (c : Nat) (w : World) (hW : Words w) (hr : kL.C w A 1 [x]) (hc : 1 ≤ c) :
  Calls Tryz.prog 8 #[.slice A 1 c, .slice A 1 c] w fun e w' => ∃ A' c' C, C = cF (.slice A' 0 c') 1 false ∧ e = .returned (.agg C) ∧ Below w.heap.size w w' := by
 refine (diff_calls [x] [x] A A c c w hW hr hr hc hc (SmL_one hx) (SmL_one hx)).mono ?_
 rw [diff_same]
 rintro e w' ⟨A', c', rfl, h1, h2⟩
 exact ⟨A', c', _, rfl, rfl, h2⟩
theorem SameP_calls {C D : Array Value} {A A2 : Option Addr} {c c2 : Nat} {e e2 : Int} {l l2 : Lf} (hC : C = cP (.slice A 0 c) e l) (hD : D = cP (.slice A2 0 c2) e2 l2) (he : e = e2) (hl : l = l2) (w : World) (h1 : kS.C w A 0 []) (h2 : kS.C w A2 0 []) :
  Calls Tryz.prog 12 #[.agg C, .agg D] w fun x w' => x = .returned (.bool true) ∧ Below w.heap.size w w' := by
 subst hC hD he hl
 refine (SameProof_calls [] [] e e l l A A2 c c2 w h1 h2 (by simp) (by simp) (Nat.zero_le _) (Nat.zero_le _)).mono ?_
 rintro x w' ⟨rfl, hb⟩
 exact ⟨by simp, hb⟩
theorem CheckC_calls {C : Array Value} {A : Option Addr} {c : Nat} {e : Int} {l : Lf} (hC : C = cP (.slice A 0 c) e l) (root : Sm) (k : ByteArray) (hk1 : k.size ≤ 100000) (hl1 : l.k.size ≤ 100000) (w : World) (hW : Words w) (hr : kS.C w A 0 []) (q : Ck) (hq : ckOf root k [] e l = q) :
  Calls Tryz.prog 16 #[.agg (cS root), .string k, .agg C] w fun r w' => r = .returned (.agg (cK q)) ∧ Below w.heap.size w w' := by
 subst hC
 have h := check_calls root k hk1 A [] c (by simp) e l hl1 w hW hr
 rw [hq] at h
 exact h
theorem RootNil_calls (w : World) (hW : Words w) (z0 : Sm) (hz : z0 = zS) : Calls Tryz.prog 10 #[.slice none 0 0] w fun e w' => e = .returned (.agg (cS z0)) ∧ Below w.heap.size w w' := by
 have h := Rootm_calls [] none 0 w hW (Kd.C_nil _ _) (Nat.le_refl _) SmL_nil
 rw [root_nil, ← hz] at h
 exact h
theorem RootOne_calls (x : Lf) (hx : x.k.size ≤ 100000) (A : Option Addr) (c : Nat) (w : World) (hW : Words w) (hr : kL.C w A 1 [x]) (hc : 1 ≤ c) :
  Calls Tryz.prog 10 #[.slice A 1 c] w fun e w' => e = .returned (.agg (cS (leafH x))) ∧ Below w.heap.size w w' := by
 have h := Rootm_calls [x] A c w hW hr hc (SmL_one hx)
 rw [root_one] at h
 exact h
theorem fill_12 (place : Nat → Option (Nat × Nat)) (y z : Value) (A B C : Array Value) (hB : B.size = y.cells.size) (hC : C.size = z.cells.size)
  (h1 : place 1 = some (A.size, y.cells.size)) (h2 : place 2 = some (A.size + y.cells.size, z.cells.size)) :
  Instr.fill place (A ++ B ++ C) [(1, y), (2, z)] = some (A ++ y.cells ++ z.cells) := by
 rw [fill_mid place 1 y _ A B C hB h1]
 have e2 : A ++ y.cells ++ C = (A ++ y.cells) ++ C ++ #[] := by rw [Array.append_empty]
 rw [e2, fill_mid place 2 z [] (A ++ y.cells) C #[] hC (by rw [Array.size_append]; exact h2), Array.append_empty]
 rfl
theorem built_P2 (x : Lf) : Tryz.prog.built 34 [(1, .int .i64 2), (2, .agg (cL x))] = some (cP (.slice none 0 0) 2 x) :=
 fill_12 (#[(0, 1), (1, 1), (2, 33)][·]?) (.int .i64 2) (.agg (cL x)) #[.slice none 0 0] #[.int .i64 0] (cL zL) rfl (by show _ = (cL x).size; rw [cL_size, cL_size]) rfl (by show some (2, 33) = some (2, (cL x).size); rw [cL_size])
end Go.Proofs.YtanabbjakacgbaaGreatDoor.Sp

