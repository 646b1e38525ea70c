/- Put together by this session's program out of: Mk0 Mk1 Mk2 Mk3 Ra Mk4 Rb Rc Rd Re. -/
import Derived.Deep.MidRow
import Derived.DeepKeys
import Derived.Great.BuildSlice
import Derived.Test.YtanabbjakacgbaaGreatDoorM1
import Derived.Test.YtanabbjakacgbaaGreatDoorM0
namespace Go.Proofs.YtanabbjakacgbaaGreatDoor.Sp
open Go.RowKit Go.Proofs.YtanabbjakacgbaaGreatDoorW.PrintWords Go.Proofs.YtanabbjakacgbaaGreatDoorW.PrintLast Go.Proofs.YtanabbjakacgbaaGreatDoorW.PrintMore Go.Proofs.YtanabbjakacgbaaGreatDoor.PM
set_option linter.unusedVariables false
set_option linter.unusedSimpArgs false
set_option maxRecDepth 100000
def eightI (n : Int) : List Int :=
 [(shr .u64 (IntKind.u64.wrap n) 56) % 256, (shr .u64 (IntKind.u64.wrap n) 48) % 256, (shr .u64 (IntKind.u64.wrap n) 40) % 256, (shr .u64 (IntKind.u64.wrap n) 32) % 256,
 (shr .u64 (IntKind.u64.wrap n) 24) % 256, (shr .u64 (IntKind.u64.wrap n) 16) % 256, (shr .u64 (IntKind.u64.wrap n) 8) % 256, (shr .u64 (IntKind.u64.wrap n) 0) % 256]
theorem eight_f (n : Int) : sponge_eight.f 9 n = some (eightI n) := by kernel_rfl
theorem Eight_f (n : Int) : burgageref03_Eight.f 9 n = some (eightI n) := by kernel_rfl
theorem eightI_len (n : Int) : (eightI n).length = 8 := rfl
theorem eightI_ok (n : Int) : ∀ b ∈ eightI n, 0 ≤ b ∧ b < 256 := by
 intro b hb
 simp only [eightI, List.mem_cons, List.not_mem_nil, or_false] at hb
 rcases hb with rfl | rfl | rfl | rfl | rfl | rfl | rfl | rfl <;> exact ⟨Int.emod_nonneg _ (by decide), Int.emod_lt_of_pos _ (by decide)⟩
def ofBytes (acc : List Int) : List (List Int) → List Int
 | [] => acc
 | p :: ps => ofBytes (acc ++ eightI p.length ++ p) ps
def Fit (ps : List (List Int)) : Prop := ps.length ≤ 1000 ∧ ∀ p ∈ ps, p.length ≤ 100000 ∧ ∀ b ∈ p, 0 ≤ b ∧ b < 256
theorem ofBytes_ok : ∀ (ps : List (List Int)) (acc : List Int), (∀ p ∈ ps, ∀ b ∈ p, 0 ≤ b ∧ b < 256) → (∀ b ∈ acc, 0 ≤ b ∧ b < 256) → ∀ b ∈ ofBytes acc ps, 0 ≤ b ∧ b < 256
 | [], acc, _, ha => ha
 | p :: ps, acc, h, ha => by
  rw [ofBytes]
  refine ofBytes_ok ps _ (fun q hq => h q (List.mem_cons_of_mem _ hq)) ?_
  intro b hb
  rcases List.mem_append.1 hb with hb | hb
  ·rcases List.mem_append.1 hb with hb | hb
   ·exact ha b hb
   ·exact eightI_ok _ b hb
  ·exact h p List.mem_cons_self b hb
theorem ofBytes_len : ∀ (ps : List (List Int)) (acc : List Int) (m : Nat), (∀ p ∈ ps, p.length ≤ m) → (ofBytes acc ps).length ≤ acc.length + ps.length * (m + 8)
 | [], acc, m, _ => by rw [ofBytes]; omega
 | p :: ps, acc, m, h => by
  rw [ofBytes]
  have h1 := ofBytes_len ps (acc ++ eightI p.length ++ p) m (fun q hq => h q (List.mem_cons_of_mem _ hq))
  have h2 := h p List.mem_cons_self
  rw [List.length_append, List.length_append, eightI_len] at h1
  rw [List.length_cons, Nat.succ_mul]
  omega
theorem ofBytes_drop (acc : List Int) (ps : List (List Int)) (x : Nat) (h : x < ps.length) : ofBytes acc (ps.drop x) = ofBytes (acc ++ eightI ((ps.getD x []).length : Int) ++ ps.getD x []) (ps.drop (x + 1)) := by
 rw [List.drop_eq_getElem_cons h, ofBytes, List.getD_eq_getElem?_getD, List.getElem?_eq_getElem h]
 rfl
structure Sm where
 b : List Int
 h : b.length = 32
 r : ∀ x ∈ b, 0 ≤ x ∧ x < 256
deriving DecidableEq
theorem outF_ok (a : List W) : ∀ i, ∀ x ∈ outF a i, 0 ≤ x ∧ x < 256
 | 0 => by
  intro x hx
  rw [outF, List.mem_replicate] at hx
  omega
 | i + 1 => by
  intro x hx
  rw [outF] at hx
  rcases List.mem_or_eq_of_mem_set hx with hx | hx
  ·exact outF_ok a i x hx
  ·rw [hx]; exact ⟨Int.emod_nonneg _ (by decide), Int.emod_lt_of_pos _ (by decide)⟩
theorem sumL_ok (l : List Int) : ∀ x ∈ sumL l, 0 ≤ x ∧ x < 256 := by rw [sumL]; exact outF_ok _ _
def H (l : List Int) : Sm := ⟨sumL l, by rw [sumL, outF_len], sumL_ok l⟩
def hof (tag : Int) (ps : List (List Int)) : Sm := H (ofBytes [tag] ps)
theorem H_b (l : List Int) : (H l).b = sumL l := by rw [H]
theorem hof_b (tag : Int) (ps : List (List Int)) : (hof tag ps).b = sumL (ofBytes [tag] ps) := by rw [hof, H_b]
theorem bytes_l0 (ps : List (List Int)) (hf : Fit ps) : ∀ (d k x : Nat) (acc : List Int), ps.length - x = d → d + 10 ≤ k → x ≤ ps.length → acc.length ≤ 1 + x * 100008 → burgageref03_Bytes.l0 k ps acc (x : Int) = some (ofBytes acc (ps.drop x)) := by
 intro d
 induction d with
 | zero =>
  intro k x acc hd hk hx ha
  obtain ⟨k, rfl⟩ : ∃ m, k = m + 1 := ⟨k - 1, by omega⟩
  rw [burgageref03_Bytes.l0, if_neg (by omega), List.drop_of_length_le (by omega), ofBytes]
 | succ d ih =>
  intro k x acc hd hk hx ha
  obtain ⟨k, rfl⟩ : ∃ m, k = m + 1 := ⟨k - 1, by omega⟩
  have hp := hf.2 _ (List.getElem_mem (l := ps) (n := x) (by omega))
  have hr : rd_L1 ps (x : Int) = ps.getD x [] := rfl
  have hg : ps.getD x [] = ps[x]'(by omega) := by rw [List.getD_eq_getElem?_getD, List.getElem?_eq_getElem (by omega)]; rfl
  have hx1 : x * 100008 ≤ 1000 * 100008 := Nat.mul_le_mul_right _ (by have := hf.1; omega)
  have h8 : burgageref03_Eight.f k ((rd_L1 ps (x : Int)).length : Int) = some (eightI ((ps.getD x []).length : Int)) := by
   rw [hr]
   obtain ⟨j, rfl⟩ : ∃ j, k = 9 + j := ⟨k - 9, by omega⟩
   have hmono : ∀ j, burgageref03_Eight.f (9 + j) ((ps.getD x []).length : Int) = some (eightI ((ps.getD x []).length : Int)) := by
    intro j
    induction j with
    | zero => exact Eight_f _
    | succ j ihj => exact burgageref03_Eight.mono _ _ _ ihj
   exact hmono j
  rw [burgageref03_Bytes.l0, if_pos (by omega), if_pos (by omega), h8]
  simp only [Option.bind_some]
  rw [hr, if_pos (by rw [eightI_len]; omega), if_pos (by rw [List.length_append, eightI_len, hg]; omega), show wrap64 ((x : Int) + 1) = ((x + 1 : Nat) : Int) by unfold wrap64; omega]
  rw [ih k (x + 1) _ (by omega) (by omega) (by omega) (by rw [List.length_append, List.length_append, eightI_len, hg]; omega), ofBytes_drop acc ps x (by omega)]
theorem bytes_f (tag : Int) (ps : List (List Int)) (hf : Fit ps) : burgageref03_Bytes.f (ps.length + 10) tag ps = some (ofBytes [tag] ps) := by
 have h := bytes_l0 ps hf ps.length (ps.length + 10) 0 [tag] (by omega) (by omega) (by omega) (by simp)
 rw [List.drop_zero] at h
 exact h
theorem ofBytes_fit (tag : Int) (ps : List (List Int)) (hf : Fit ps) : (ofBytes [tag] ps).length ≤ 1000000000 := by
 have h := ofBytes_len ps [tag] 100000 (fun p hp => (hf.2 p hp).1)
 have h2 : ps.length * (100000 + 8) ≤ 1000 * (100000 + 8) := Nat.mul_le_mul_right _ hf.1
 simp at h
 omega
theorem ofBytes_in (tag : Int) (ht : 0 ≤ tag ∧ tag < 256) (ps : List (List Int)) (hf : Fit ps) : ∀ b ∈ ofBytes [tag] ps, 0 ≤ b ∧ b < 256 :=
 ofBytes_ok ps [tag] (fun p hp => (hf.2 p hp).2) (by simpa using ht)
theorem kept2 {w w1 w2 : World} {o : Obj} (h1 : Below (w.alloc o).heap.size (w.alloc o) w1) (h2 : Below w1.heap.size w1 w2) : w2.heap[w.heap.size]? = some o := by
 have hs : (w.alloc o).heap.size = w.heap.size + 1 := by show (w.heap.push o).size = _; rw [Array.size_push]
 have := h1.size
 exact (h2.block _ (by omega)).trans ((h1.block _ (by omega)).trans (h_new rfl))
theorem below2 {w w1 w2 : World} {o : Obj} (h1 : Below (w.alloc o).heap.size (w.alloc o) w1) (h2 : Below w1.heap.size w1 w2) : Below w.heap.size w w2 := by
 have hs : (w.alloc o).heap.size = w.heap.size + 1 := by show (w.heap.push o).size = _; rw [Array.size_push]
 have := h1.size
 exact ((Below.refl w.heap.size w).alloc (Nat.le_refl _) o).trans ((h1.mono (by omega)).trans (h2.mono (by omega)))
set_option maxHeartbeats 4000000 in
theorem R3Of_calls (tag : Int) (ht : 0 ≤ tag ∧ tag < 256) (ps : List (List Int)) (hf : Fit ps) (A : Option Addr) (c : Nat) (w : World) (hr : Kd.C (Kd.slice 5 (Kd.int .u8)) w A ps.length ps) (hc : ps.length ≤ c) :
  Calls Tryz.prog 25 #[.int .u8 tag, .slice A ps.length c] w fun e w' => e = .returned (.agg (encI (hof tag ps).b)) ∧ Below w.heap.size w w' := by
 have hu27 := Tryz.underlying30
 have HS := Aside0.mk hr
 clear hr
 obtain ⟨B, hB⟩ : ∃ B, B = ofBytes [tag] ps := ⟨_, rfl⟩
 obtain ⟨T, hT⟩ : ∃ T, T = sum3 B := ⟨_, rfl⟩
 have hBl : B.length ≤ 1000000000 := by rw [hB]; exact ofBytes_fit tag ps hf
 have HBI := Aside0.mk (show ∀ b ∈ B, 0 ≤ b ∧ b < 256 by rw [hB]; exact ofBytes_in tag ht ps hf)
 have HF := Aside0.mk (show burgageref03_Bytes.f (ps.length + 10) tag ps = some B by rw [hB]; exact bytes_f tag ps hf)
 have hR : (hof tag ps).b = T := by rw [hof_b, hT, sum_eq B HBI.out, hB]
 have hTl : T.length = 32 := by rw [hT, sum3, out3_len]
 have HT := Aside0.mk hT
 rw [hR]
 clear hB hf hT hR
 go_enter Tryz.func25, Tryz.ntmps25
 go_wp2_with (first
  | (go_at_call 46; (refine (burgageref03_Bytes.calls (ps.length + 10) tag A c ps B _ (Kd.C_below HS.out (below_alloc (Below.refl _ _) _)) hc HF.out).mono ?_); rintro e w1 ⟨v1, rfl, hv1, hb1⟩; have HV1 := Aside0.mk hv1; have HB1 := Aside0.mk hb1; clear hv1 hb1; (obtain ⟨A1, c1, e1, hc1, hr1⟩ := Kd.R_reads HV1.out); subst e1; have HR1 := Aside0.mk hr1; clear hr1)
  | (go_at_call 27; (refine (sum3_calls B A1 c1 HBI.out hc1 hBl _ HR1.out).mono ?_); rintro e w2 ⟨he2, hb2⟩; rw [← HT.out] at he2; subst he2; have HB2 := Aside0.mk hb2; clear hb2)
  | ((with_reducible refine gate_store (t := 30) rfl ?_); go_loud (refine wpList_store_row rfl 30 (.tmp 4) (.tmp 8) rfl w.heap.size (encI T) rfl rfl 30 (encI (List.replicate 32 0)) (kept2 HB1.out HB2.out) ?g3 ?g4 (encI_one _) ?_); (case g3 => rw [encI_size, hTl]; kernel_rfl); (case g4 => rw [encI_size, encI_size, hTl]; rfl)))
 refine bodyPost_ret (v := .agg (encI T)) ?_ rfl ⟨rfl, below_setRow (below2 HB1.out HB2.out) (Nat.le_refl _)⟩
 exact results_cell_row rfl _ _ w.heap.size 30 _ (0, 0) _ rfl (setRow_heap _ _ _ _ _ _ (kept2 HB1.out HB2.out)) hu27 rfl (by rw [encI_size, hTl]; kernel_rfl)
end Go.Proofs.YtanabbjakacgbaaGreatDoor.Sp
namespace Go.Proofs.YtanabbjakacgbaaGreatDoor.Sp
open Go.RowKit Go.Proofs.YtanabbjakacgbaaGreatDoorW.PrintWords Go.Proofs.YtanabbjakacgbaaGreatDoorW.PrintLast Go.Proofs.YtanabbjakacgbaaGreatDoorW.PrintMore Go.Proofs.YtanabbjakacgbaaGreatDoor.PM
set_option linter.unusedVariables false
set_option linter.unusedSimpArgs false
set_option maxRecDepth 100000
structure Lf where
 k : ByteArray
 v : Sm
deriving DecidableEq
structure It where
 x : Lf
 s : Sm
deriving DecidableEq
def zS : Sm := ⟨List.replicate 32 0, rfl, fun x hx => by rw [List.mem_replicate] at hx; omega⟩
def zL : Lf := ⟨ByteArray.empty, zS⟩
def zI : It := ⟨zL, zS⟩
def cS (x : Sm) : Array Value := encI x.b
def cL (x : Lf) : Array Value := #[.string x.k] ++ cS x.v
def cI (x : It) : Array Value := cL x.x ++ cS x.s
theorem cS_size (x : Sm) : (cS x).size = 32 := by rw [cS, encI_size, x.h]
theorem cL_size (x : Lf) : (cL x).size = 33 := by rw [cL, Array.size_append, cS_size]; rfl
theorem cI_size (x : It) : (cI x).size = 65 := by rw [cI, Array.size_append, cS_size, cL_size]
theorem cS_one (x : Sm) : ∀ u ∈ (cS x).toList, u.oneCell' = true := by
 intro u hu
 rw [cS, encI] at hu
 simp only [List.toList_toArray] at hu
 obtain ⟨b, _, rfl⟩ := List.mem_map.1 hu
 rfl
theorem cL_one (x : Lf) : ∀ u ∈ (cL x).toList, u.oneCell' = true := by
 intro u hu
 rw [cL, Array.toList_append] at hu
 rcases List.mem_append.1 hu with hu | hu
 ·simp at hu; subst hu; rfl
 ·exact cS_one _ u hu
theorem cI_one (x : It) : ∀ u ∈ (cI x).toList, u.oneCell' = true := by
 intro u hu
 rw [cI, Array.toList_append] at hu
 rcases List.mem_append.1 hu with hu | hu
 ·exact cL_one _ u hu
 ·exact cS_one _ u hu
def flat {α : Type} (n : Nat) (enc : α → Array Value) (hn : ∀ x, (enc x).size = n) (h1 : ∀ x, ∀ u ∈ (enc x).toList, u.oneCell' = true) : Kd α where
 sz := n
 E := []
 K := fun _ x cs => cs = (enc x).toList
 M := fun _ _ _ x cs => cs = (enc x).toList
 K_len := fun h => by rw [h, Array.length_toList, hn]
 K_one := fun h => by rw [h]; exact h1 _
 K_below := fun _ h => h
 K_of_M := fun h => h
 M_mono := fun _ h => h
 M_bound := fun h => h
 M_move := fun _ h => h
 M_lower := fun _ h => h
def kS : Kd Sm := flat 32 cS cS_size cS_one
def kL : Kd Lf := flat 33 cL cL_size cL_one
def kI : Kd It := flat 65 cI cI_size cI_one
section
variable {P : Program}
theorem run_loadVar_at (w : World) (ad : Addr) (ty : TypeId) (cs : Array Value) (d : TypeDesc) (hc : ∀ j u, cs.toList[j]? = some u → w.cell? (ad.add j) = some u)
  (hu : P.underlying ty = some d) (hd : d.isRow = true) (hi : (P.info? ty).map (·.size) = some cs.size) :
  (loadVar ty ad).run P w = .ok (.agg cs) w := by
 have hl : (loadCells ad cs.toList.length).run P w = .ok cs.toList.toArray w := run_loadCells_list (P := P) w ad cs.toList hc
 cases hq : P.info? ty with
 | none => simp [hq] at hi
 | some i =>
  have hs : i.size = cs.size := by simpa [hq] using hi
  have hagg : (isAgg ty).run P w = .ok true w := by
   unfold isAgg
   rw [Sem.run_bind, run_underlying hu w]
   cases d <;> simp_all
  rw [Array.length_toList] at hl
  simp [loadVar, Sem.run_bind, hagg, sizeOf, typeInfo, hq, hs, hl]
end
theorem at_flat {α : Type} {n : Nat} {enc : α → Array Value} {hn : ∀ x, (enc x).size = n} {h1} {w : World} {A : Option Addr} {m : Nat} {xs : List α} (h : Kd.C (flat n enc hn h1) w A m xs) (z : α) (i : Int) (h0 : 0 ≤ i) (hi : i < m) :
  ∃ ad, A = some ad ∧ ∀ j u, (enc (xs.getD i.toNat z)).toList[j]? = some u → w.cell? ((ad.add (i.toNat * n)).add j) = some u := by
 obtain ⟨ad, c, e, _, hK, hc⟩ := Kd.C_get h z i h0 hi
 subst hK
 refine ⟨ad, e, fun j u hj => ?_⟩
 rw [Addr.add_add]
 exact hc j u hj
end Go.Proofs.YtanabbjakacgbaaGreatDoor.Sp
namespace Go.Proofs.YtanabbjakacgbaaGreatDoor.Sp
open Go.RowKit Go.Proofs.YtanabbjakacgbaaGreatDoorW.PrintWords Go.Proofs.YtanabbjakacgbaaGreatDoorW.PrintLast Go.Proofs.YtanabbjakacgbaaGreatDoorW.PrintMore Go.Proofs.YtanabbjakacgbaaGreatDoor.PM
set_option linter.unusedVariables false
set_option linter.unusedSimpArgs false
set_option maxRecDepth 100000
section
variable {P : Program}
theorem run_part_agg (w : World) {t : TypeId} {d : TypeDesc} (hu : P.underlying t = some d) (hd : d.isRow = true) {n : Nat} (hi : (P.info? t).map (·.size) = some n) (xs : Array Value) (off : Nat) :
  (part t xs off).run P w = .ok (.agg (xs.extract off (off + n))) w := by
 cases hq : P.info? t with
 | none => simp [hq] at hi
 | some i =>
  have hs : i.size = n := by simpa [hq] using hi
  have hagg : (isAgg t).run P w = .ok true w := by
   unfold isAgg
   rw [Sem.run_bind, run_underlying hu w]
   cases d <;> simp_all
  simp [part, Sem.run_bind, hagg, sizeOf, typeInfo, hq, hs]
theorem run_part_cell (w : World) {t : TypeId} {d : TypeDesc} (hu : P.underlying t = some d) (hd : d.isRow = false) {xs : Array Value} {off : Nat} {v : Value} (hx : xs[off]? = some v) :
  (part t xs off).run P w = .ok v w := by
 have hagg : (isAgg t).run P w = .ok false w := by
  unfold isAgg
  rw [Sem.run_bind, run_underlying hu w]
  cases d <;> simp_all
 simp [part, Sem.run_bind, hagg, hx]
theorem run_field (w : World) {T : TypeId} {fs : Array Field} {f : Field} {j : Nat} {cs : Array Value} {v : Value} (hu : P.underlying T = some (.struct fs)) (hf : fs[j]? = some f) (hp : (part f.type cs f.offset).run P w = .ok v w) :
  (Instr.field T (.agg cs) j).run P w = .ok v w := by
 simp [Instr.field, Sem.run_bind, run_underlying hu, hf, asAgg, hp]
def Yield (P : Program) (o : Oper) (a : Act) (w : World) (v : Value) : Prop := (execOp a.eval o).run P w = .ok (.value v) w
theorem yield_load {o : Oper} {a : Act} {w : World} {v : Value} (ty : TypeId) (x : Operand) (ho : o.op = .load ty x) (ad : Addr) (hx : a.eval x = .pointer (some ad)) (hl : (loadVar ty ad).run P w = .ok v w) : Yield P o a w v := by
 unfold Yield execOp
 simp only [ho, hx, Instr.loadAt, Instr.sureAddr, Sem.run_bind, Sem.run_pure, Result.andThen_ok, hl]
theorem yield_field {o : Oper} {a : Act} {w : World} {v : Value} (T : TypeId) (x : Operand) (j : Nat) (ho : o.op = .field T x j) (u : Value) (hx : a.eval x = u) (hl : (Instr.field T u j).run P w = .ok v w) : Yield P o a w v := by
 unfold Yield execOp
 simp only [ho, hx, Sem.run_bind, Sem.run_pure, Result.andThen_ok, hl]
theorem yield_eql {o : Oper} {a : Act} {w : World} {b : Bool} (T T2 : TypeId) (x y : Operand) (ho : o.op = .binOp .eql T x y T2) (xs ys : Array Value) (hx : a.eval x = .agg xs) (hy : a.eval y = .agg ys) (hm : P.eqGuardType P.depth T = false) (hl : (Op.equal T (.agg xs) (.agg ys)).run P w = .ok b w) : Yield P o a w (.bool b) := by
 unfold Yield execOp
 simp [ho, hx, hy, Sem.run_bind, Sem.run_pure, Result.andThen_ok, run_eqGuard_agg w .eql T x y xs ys hm, binOp, hl]
theorem yield_neq {o : Oper} {a : Act} {w : World} {b : Bool} (T T2 : TypeId) (x y : Operand) (ho : o.op = .binOp .neq T x y T2) (xs ys : Array Value) (hx : a.eval x = .agg xs) (hy : a.eval y = .agg ys) (hm : P.eqGuardType P.depth T = false) (hl : (Op.equal T (.agg xs) (.agg ys)).run P w = .ok b w) : Yield P o a w (.bool (!b)) := by
 unfold Yield execOp
 simp [ho, hx, hy, Sem.run_bind, Sem.run_pure, Result.andThen_ok, run_eqGuard_agg w .neq T x y xs ys hm, binOp, hl]
theorem wpList_yield {ops : Array Oper} {rest : List Oper} {o : Oper} {a : Act} {w : World} {Q : Exit → Act → World → Prop} (v : Value) (hg : o.guard = none) (hy : Yield P o a w v) (h : wpList P ops Q rest (a.put o.dst v) w) : wpList P ops Q (o :: rest) a w :=
 wpList_plain hg fun K hK => by
  unfold Oper.wp
  rw [hy]
  exact hK _ _ h
theorem wpQuiet_yield {ops : Array Oper} {C : World → Prop} {R : Act → Prop} {rest : List Oper} {o : Oper} {a : Act} (v : Value) (hg : o.guard = none) (hy : ∀ w, C w → Yield P o a w v) (h : wpQuiet P ops C R rest (a.put o.dst v)) : wpQuiet P ops C R (o :: rest) a := by
 refine wpQuiet_step fun K hK => ?_
 simp only [Region.wanted, hg, if_true]
 refine ⟨v, fun w hw => ?_, hK _ h⟩
 unfold Oper.quietAt
 rw [hy w hw]
 exact ⟨rfl, rfl⟩
theorem wpQuiet_load {ops : Array Oper} {C : World → Prop} {R : Act → Prop} {rest : List Oper} {o : Oper} {a : Act} {w0 : World} (hC : ∀ w, C w → ∃ m, w = w0.drewN m) (hg : o.guard = none) (ty : TypeId) (x : Operand) (ho : o.op = .load ty x) (ad : Addr) (hx : a.eval x = .pointer (some ad))
  (v : Value) (hl : ∀ m, (loadVar ty ad).run P (w0.drewN m) = .ok v (w0.drewN m)) (a' : Act) (ha : a.put o.dst v = a') (h : wpQuiet P ops C R rest a') : wpQuiet P ops C R (o :: rest) a :=
 wpQuiet_yield v hg (fun w hw => by obtain ⟨m, rfl⟩ := hC w hw; exact yield_load ty x ho ad hx (hl m)) (ha ▸ h)
theorem wpQuiet_field {ops : Array Oper} {C : World → Prop} {R : Act → Prop} {rest : List Oper} {o : Oper} {a : Act} (hg : o.guard = none) (T : TypeId) (x : Operand) (j : Nat) (ho : o.op = .field T x j) (u : Value) (hx : a.eval x = u)
  (v : Value) (hl : ∀ w, (Instr.field T u j).run P w = .ok v w) (a' : Act) (ha : a.put o.dst v = a') (h : wpQuiet P ops C R rest a') : wpQuiet P ops C R (o :: rest) a :=
 wpQuiet_yield v hg (fun w hw => yield_field T x j ho u hx (hl w)) (ha ▸ h)
theorem wpQuiet_eql {ops : Array Oper} {C : World → Prop} {R : Act → Prop} {rest : List Oper} {o : Oper} {a : Act} (hg : o.guard = none) (T T2 : TypeId) (x y : Operand) (ho : o.op = .binOp .eql T x y T2) (xs ys : Array Value) (hx : a.eval x = .agg xs) (hy : a.eval y = .agg ys) (hm : P.eqGuardType P.depth T = false)
  (b : Bool) (hl : ∀ w, (Op.equal T (.agg xs) (.agg ys)).run P w = .ok b w) (a' : Act) (ha : a.put o.dst (.bool b) = a') (h : wpQuiet P ops C R rest a') : wpQuiet P ops C R (o :: rest) a :=
 wpQuiet_yield _ hg (fun w hw => yield_eql T T2 x y ho xs ys hx hy hm (hl w)) (ha ▸ h)
theorem wpQuiet_neq {ops : Array Oper} {C : World → Prop} {R : Act → Prop} {rest : List Oper} {o : Oper} {a : Act} (hg : o.guard = none) (T T2 : TypeId) (x y : Operand) (ho : o.op = .binOp .neq T x y T2) (xs ys : Array Value) (hx : a.eval x = .agg xs) (hy : a.eval y = .agg ys) (hm : P.eqGuardType P.depth T = false)
  (b : Bool) (hl : ∀ w, (Op.equal T (.agg xs) (.agg ys)).run P w = .ok b w) (a' : Act) (ha : a.put o.dst (.bool (!b)) = a') (h : wpQuiet P ops C R rest a') : wpQuiet P ops C R (o :: rest) a :=
 wpQuiet_yield _ hg (fun w hw => yield_neq T T2 x y ho xs ys hx hy hm (hl w)) (ha ▸ h)
theorem wpList_loadv {ops : Array Oper} {Q : Exit → Act → World → Prop} {rest : List Oper} {o : Oper} {a : Act} {w : World} (hg : o.guard = none) (ty : TypeId) (x : Operand) (ho : o.op = .load ty x) (ad : Addr) (hx : a.eval x = .pointer (some ad))
  (v : Value) (hl : (loadVar ty ad).run P w = .ok v w) (h : wpList P ops Q rest (a.put o.dst v) w) : wpList P ops Q (o :: rest) a w :=
 wpList_yield v hg (yield_load ty x ho ad hx hl) h
theorem wpList_eql {ops : Array Oper} {Q : Exit → Act → World → Prop} {rest : List Oper} {o : Oper} {a : Act} {w : World} (hg : o.guard = none) (T T2 : TypeId) (x y : Operand) (ho : o.op = .binOp .eql T x y T2) (xs ys : Array Value) (hx : a.eval x = .agg xs) (hy : a.eval y = .agg ys) (hm : P.eqGuardType P.depth T = false)
  (b : Bool) (hl : ∀ w, (Op.equal T (.agg xs) (.agg ys)).run P w = .ok b w) (h : wpList P ops Q rest (a.put o.dst (.bool b)) w) : wpList P ops Q (o :: rest) a w :=
 wpList_yield _ hg (yield_eql T T2 x y ho xs ys hx hy hm (hl w)) h
theorem wpList_neq {ops : Array Oper} {Q : Exit → Act → World → Prop} {rest : List Oper} {o : Oper} {a : Act} {w : World} (hg : o.guard = none) (T T2 : TypeId) (x y : Operand) (ho : o.op = .binOp .neq T x y T2) (xs ys : Array Value) (hx : a.eval x = .agg xs) (hy : a.eval y = .agg ys) (hm : P.eqGuardType P.depth T = false)
  (b : Bool) (hl : ∀ w, (Op.equal T (.agg xs) (.agg ys)).run P w = .ok b w) (h : wpList P ops Q rest (a.put o.dst (.bool (!b))) w) : wpList P ops Q (o :: rest) a w :=
 wpList_yield _ hg (yield_neq T T2 x y ho xs ys hx hy hm (hl w)) h
theorem load_row {w : World} {g : Nat} {t : TypeId} {cs : Array Value} {fr : Nat × Nat} {d : TypeDesc} (hg : w.heap[g]? = some (.cells cs t fr)) (ty : TypeId) (hu : P.underlying ty = some d) (hd : d.isRow = true) (hi : (P.info? ty).map (·.size) = some cs.size) (m : Nat) :
  (loadVar ty ⟨g, 0, none⟩).run P (w.drewN m) = .ok (.agg cs) (w.drewN m) :=
 run_loadVar_row _ g t ty cs fr d hg hu (by cases d <;> simp_all) hi
theorem load_el {w w' : World} {ad : Addr} {cs : Array Value} {d : TypeDesc} (hc : ∀ j u, cs.toList[j]? = some u → w.cell? (ad.add j) = some u) (hb : Below w.heap.size w w') (ty : TypeId) (hu : P.underlying ty = some d) (hd : d.isRow = true) (hi : (P.info? ty).map (·.size) = some cs.size) (m : Nat) :
  (loadVar ty ad).run P (w'.drewN m) = .ok (.agg cs) (w'.drewN m) :=
 run_loadVar_at _ ad ty cs d (fun j u hj => by
  have h := hc j u hj
  exact ((show (w'.drewN m).cell? (ad.add j) = w'.cell? (ad.add j) from rfl).trans (hb.cell (World.block_lt_of_cell? w _ h))).trans h) hu hd hi
theorem add_at' (ad : Addr) (m : Nat) (hm : 0 < m) : ad.add m = ⟨ad.block, ad.off + m, none⟩ := by
 unfold Addr.add
 rw [if_neg (by omega)]
theorem eqItems_u8 (d : Nat) {e : TypeId} (he : P.underlying e = some (.int .u8)) (w : World) (a b : List Int) (hl : a.length = b.length) : ∀ (m k : Nat), k + m = a.length →
  (Op.eqItems (d + 1) e 1 (encI a) (encI b) (List.range' k m)).run P w = .ok (decide (a.drop k = b.drop k)) w
 | 0, k, h => by
  rw [List.drop_of_length_le (by omega), List.drop_of_length_le (by omega)]
  simp [Op.eqItems]
 | m + 1, k, h => by
  have ha := encI_get a k (by omega)
  have hb := encI_get b k (by omega)
  rw [List.range'_succ]
  simp only [Op.eqItems, Sem.run_bind, Nat.mul_one]
  rw [run_part_cell w he rfl ha]
  simp only [Result.andThen_ok]
  rw [run_part_cell w he rfl hb]
  simp only [Result.andThen_ok]
  rw [run_equalIn_int w d e .u8 .u8 _ _ he]
  simp only [Result.andThen_ok]
  rw [List.drop_eq_getElem_cons (by omega : k < a.length), List.drop_eq_getElem_cons (by omega : k < b.length)]
  have e1 : a.getD k 0 = a[k]'(by omega) := by rw [List.getD_eq_getElem?_getD, List.getElem?_eq_getElem (by omega)]; rfl
  have e2 : b.getD k 0 = b[k]'(by omega) := by rw [List.getD_eq_getElem?_getD, List.getElem?_eq_getElem (by omega)]; rfl
  rw [e1, e2]
  generalize a[k]'(by omega) = p
  generalize b[k]'(by omega) = q
  have ih := eqItems_u8 d he w a b hl m (k + 1) (by omega)
  generalize a.drop (k + 1) = s at ih ⊢
  generalize b.drop (k + 1) = t at ih ⊢
  by_cases hx : p = q
  ·subst hx; simp [ih]
  ·simp [hx]
end
theorem enc_app_l (a b : Array Value) (n : Nat) (h : n = a.size) : (a ++ b).extract 0 (0 + n) = a := by subst h; simp
theorem enc_app_r (a b : Array Value) (k n : Nat) (h : k = a.size) (h2 : n = b.size) : (a ++ b).extract k (k + n) = b := by subst h; subst h2; simp
theorem eq_S (d : Nat) (w : World) (x y : Sm) : (Op.equalIn (d + 2) 30 (.agg (cS x)) (.agg (cS y))).run Tryz.prog w = .ok (decide (x = y)) w := by
 obtain ⟨i, hi⟩ := info_of_underlying (P := Tryz.prog) Tryz.underlying5
 have hc : Tryz.prog.cellsOf 5 = 1 := by kernel_rfl
 rw [run_equalIn_array w (d + 1) (cS x) (cS y) Tryz.underlying30 hi, hc, List.range_eq_range', cS, cS, eqItems_u8 d Tryz.underlying5 w x.b y.b (by rw [x.h, y.h]) 32 0 (by rw [x.h]), List.drop_zero, List.drop_zero]
 congr 1
 by_cases h : x = y
 ·subst h; simp
 ·have : ¬ x.b = y.b := fun e => h (by cases x; cases y; simp_all)
  simp [h, this]
theorem part_L0 (w : World) (x : Lf) : (part 9 (cL x) 0).run Tryz.prog w = .ok (.string x.k) w := run_part_cell w Tryz.underlying9 rfl (by rw [cL, Array.getElem?_append_left (by simp)]; rfl)
theorem part_L1 (w : World) (x : Lf) : (part 30 (cL x) 1).run Tryz.prog w = .ok (.agg (cS x.v)) w := by
 rw [run_part_agg w Tryz.underlying30 rfl (n := 32) (by kernel_rfl), cL, enc_app_r _ _ 1 32 rfl (cS_size _).symm]
theorem part_I0 (w : World) (x : It) : (part 32 (cI x) 0).run Tryz.prog w = .ok (.agg (cL x.x)) w := by
 rw [run_part_agg w Tryz.underlying32 rfl (n := 33) (by kernel_rfl), cI, enc_app_l _ _ 33 (cL_size _).symm]
theorem part_I1 (w : World) (x : It) : (part 30 (cI x) 33).run Tryz.prog w = .ok (.agg (cS x.s)) w := by
 rw [run_part_agg w Tryz.underlying30 rfl (n := 32) (by kernel_rfl), cI, enc_app_r _ _ 33 32 (cL_size _).symm (cS_size _).symm]
theorem eq_L (d : Nat) (w : World) (x y : Lf) : (Op.equalIn (d + 3) 32 (.agg (cL x)) (.agg (cL y))).run Tryz.prog w = .ok (decide (x = y)) w := by
 have h : (Op.equalIn (d + 3) 32 (.agg (cL x)) (.agg (cL y))).run Tryz.prog w = .ok ((x.k.toList == y.k.toList) && decide (x.v = y.v)) w := by
  refine eqA_of Tryz.underlying32 (by kernel_rfl) ?_
  refine eqf_cons (by rfl) (part_L0 w x) (part_L0 w y) (run_equalIn_string w (d + 1) 9 _ _ Tryz.underlying9) ?_
  exact eqf_last (by rfl) (part_L1 w x) (part_L1 w y) (eq_S d w x.v y.v)
 rw [h]
 congr 1
 by_cases h : x = y
 ·subst h; simp
 ·by_cases hk : x.k = y.k
  ·have hv : ¬ x.v = y.v := fun e => h (by cases x; cases y; simp_all)
   simp [h, hv]
  ·have : ¬ (x.k.toList = y.k.toList) := fun e => hk (by
    have := congrArg (fun l : List UInt8 => (⟨l.toArray⟩ : ByteArray)) e
    have h2 : x.k.data = y.k.data := by simpa [ByteArray.toList_eq] using this
    exact ByteArray.ext h2)
   simp [h, this]
theorem eq_I (t : Nat) (ht : t = 77 ∨ t = 64) (d : Nat) (w : World) (x y : It) : (Op.equalIn (d + 4) t (.agg (cI x)) (.agg (cI y))).run Tryz.prog w = .ok (decide (x = y)) w := by
 have h : (Op.equalIn (d + 4) t (.agg (cI x)) (.agg (cI y))).run Tryz.prog w = .ok (decide (x.x = y.x) && decide (x.s = y.s)) w := by
  rcases ht with rfl | rfl
  ·refine eqA_of Tryz.underlying77 (by kernel_rfl) ?_
   refine eqf_cons (by rfl) (part_I0 w x) (part_I0 w y) (eq_L d w x.x y.x) ?_
   exact eqf_last (by rfl) (part_I1 w x) (part_I1 w y) (eq_S (d + 1) w x.s y.s)
  ·refine eqA_of Tryz.underlying64 (by kernel_rfl) ?_
   refine eqf_cons (by rfl) (part_I0 w x) (part_I0 w y) (eq_L d w x.x y.x) ?_
   exact eqf_last (by rfl) (part_I1 w x) (part_I1 w y) (eq_S (d + 1) w x.s y.s)
 rw [h]
 congr 1
 by_cases h : x = y
 ·subst h; simp
 ·by_cases hk : x.x = y.x
  ·have hv : ¬ x.s = y.s := fun e => h (by cases x; cases y; simp_all)
   simp [h, hv]
  ·simp [h, hk]
theorem eqS (w : World) (x y : Sm) : (Op.equal 30 (.agg (cS x)) (.agg (cS y))).run Tryz.prog w = .ok (decide (x = y)) w := eq_S 9998 w x y
theorem eqL (w : World) (x y : Lf) : (Op.equal 32 (.agg (cL x)) (.agg (cL y))).run Tryz.prog w = .ok (decide (x = y)) w := eq_L 9997 w x y
theorem eqI (w : World) (x y : It) : (Op.equal 77 (.agg (cI x)) (.agg (cI y))).run Tryz.prog w = .ok (decide (x = y)) w := eq_I 77 (.inl rfl) 9996 w x y
theorem fld_L0 (w : World) (x : Lf) : (Instr.field 32 (.agg (cL x)) 0).run Tryz.prog w = .ok (.string x.k) w := run_field w Tryz.underlying32 rfl (part_L0 w x)
theorem fld_L1 (w : World) (x : Lf) : (Instr.field 32 (.agg (cL x)) 1).run Tryz.prog w = .ok (.agg (cS x.v)) w := run_field w Tryz.underlying32 rfl (part_L1 w x)
theorem fld_I0 (w : World) (x : It) : (Instr.field 77 (.agg (cI x)) 0).run Tryz.prog w = .ok (.agg (cL x.x)) w := run_field w Tryz.underlying77 rfl (part_I0 w x)
theorem fld_I1 (w : World) (x : It) : (Instr.field 77 (.agg (cI x)) 1).run Tryz.prog w = .ok (.agg (cS x.s)) w := run_field w Tryz.underlying77 rfl (part_I1 w x)
theorem fld_J0 (w : World) (x : It) : (Instr.field 64 (.agg (cI x)) 0).run Tryz.prog w = .ok (.agg (cL x.x)) w := run_field w Tryz.underlying64 rfl (part_I0 w x)
theorem fld_J1 (w : World) (x : It) : (Instr.field 64 (.agg (cI x)) 1).run Tryz.prog w = .ok (.agg (cS x.s)) w := run_field w Tryz.underlying64 rfl (part_I1 w x)
theorem gt_L : Tryz.prog.eqGuardType Tryz.prog.depth 32 = false := by kernel_rfl
theorem gt_S : Tryz.prog.eqGuardType Tryz.prog.depth 30 = false := by kernel_rfl
theorem gt_I : Tryz.prog.eqGuardType Tryz.prog.depth 77 = false := by kernel_rfl
theorem ld_S {w : World} {g : Nat} {t : TypeId} {x : Sm} {fr : Nat × Nat} (hg : w.heap[g]? = some (.cells (cS x) t fr)) (m : Nat) : (loadVar 30 ⟨g, 0, none⟩).run Tryz.prog (w.drewN m) = .ok (.agg (cS x)) (w.drewN m) :=
 load_row hg 30 Tryz.underlying30 rfl (by rw [cS_size]; kernel_rfl) m
theorem ld_L {w : World} {g : Nat} {t : TypeId} {x : Lf} {fr : Nat × Nat} (hg : w.heap[g]? = some (.cells (cL x) t fr)) (m : Nat) : (loadVar 32 ⟨g, 0, none⟩).run Tryz.prog (w.drewN m) = .ok (.agg (cL x)) (w.drewN m) :=
 load_row hg 32 Tryz.underlying32 rfl (by rw [cL_size]; kernel_rfl) m
theorem le_S {w w' : World} {ad : Addr} {x : Sm} (hc : ∀ j u, (cS x).toList[j]? = some u → w.cell? (ad.add j) = some u) (hb : Below w.heap.size w w') (m : Nat) : (loadVar 30 ad).run Tryz.prog (w'.drewN m) = .ok (.agg (cS x)) (w'.drewN m) :=
 load_el hc hb 30 Tryz.underlying30 rfl (by rw [cS_size]; kernel_rfl) m
theorem le_L {w w' : World} {ad : Addr} {x : Lf} (hc : ∀ j u, (cL x).toList[j]? = some u → w.cell? (ad.add j) = some u) (hb : Below w.heap.size w w') (m : Nat) : (loadVar 32 ad).run Tryz.prog (w'.drewN m) = .ok (.agg (cL x)) (w'.drewN m) :=
 load_el hc hb 32 Tryz.underlying32 rfl (by rw [cL_size]; kernel_rfl) m
theorem le_I {w w' : World} {ad : Addr} {x : It} (hc : ∀ j u, (cI x).toList[j]? = some u → w.cell? (ad.add j) = some u) (hb : Below w.heap.size w w') (m : Nat) : (loadVar 77 ad).run Tryz.prog (w'.drewN m) = .ok (.agg (cI x)) (w'.drewN m) :=
 load_el hc hb 77 Tryz.underlying77 rfl (by rw [cI_size]; kernel_rfl) m
theorem le_J {w w' : World} {ad : Addr} {x : It} (hc : ∀ j u, (cI x).toList[j]? = some u → w.cell? (ad.add j) = some u) (hb : Below w.heap.size w w') (m : Nat) : (loadVar 64 ad).run Tryz.prog (w'.drewN m) = .ok (.agg (cI x)) (w'.drewN m) :=
 load_el hc hb 64 Tryz.underlying64 rfl (by rw [cI_size]; kernel_rfl) m
theorem at_L0 {w : World} {ad : Addr} {x : Lf} (hc : ∀ j u, (cL x).toList[j]? = some u → w.cell? (ad.add j) = some u) : w.cell? ad = some (.string x.k) := by
 have h := hc 0 (.string x.k) (by rw [cL]; simp)
 rwa [Addr.add_zero'] at h
theorem at_L1 {w : World} {ad : Addr} {x : Lf} (hc : ∀ j u, (cL x).toList[j]? = some u → w.cell? (ad.add j) = some u) : ∀ j u, (cS x.v).toList[j]? = some u → w.cell? ((⟨ad.block, ad.off + 1, none⟩ : Addr).add j) = some u := by
 intro j u hj
 have h := hc (1 + j) u (by rw [cL, Array.toList_append, List.getElem?_append_right (by simp)]; simpa using hj)
 rw [show (⟨ad.block, ad.off + 1, none⟩ : Addr).add j = ad.add (1 + j) by rw [Addr.add_lit, add_at' ad (1 + j) (by omega), Nat.add_assoc]]
 exact h
theorem at_I0 {w : World} {ad : Addr} {x : It} (hc : ∀ j u, (cI x).toList[j]? = some u → w.cell? (ad.add j) = some u) : ∀ j u, (cL x.x).toList[j]? = some u → w.cell? (ad.add j) = some u := by
 intro j u hj
 refine hc j u ?_
 have hl := (List.getElem?_eq_some_iff.1 hj).1
 rw [cI, Array.toList_append, List.getElem?_append_left hl]
 exact hj
theorem at_I1 {w : World} {ad : Addr} {x : It} (hc : ∀ j u, (cI x).toList[j]? = some u → w.cell? (ad.add j) = some u) : ∀ j u, (cS x.s).toList[j]? = some u → w.cell? ((⟨ad.block, ad.off + 33, none⟩ : Addr).add j) = some u := by
 intro j u hj
 have h := hc (33 + j) u (by
  rw [cI, Array.toList_append, List.getElem?_append_right (by rw [Array.length_toList, cL_size]; omega), Array.length_toList, cL_size, Nat.add_sub_cancel_left]
  exact hj)
 rw [show (⟨ad.block, ad.off + 33, none⟩ : Addr).add j = ad.add (33 + j) by rw [Addr.add_lit, add_at' ad (33 + j) (by omega), Nat.add_assoc]]
 exact h
end Go.Proofs.YtanabbjakacgbaaGreatDoor.Sp
namespace Go.Proofs.YtanabbjakacgbaaGreatDoor.Sp
open Go.RowKit Go.Proofs.YtanabbjakacgbaaGreatDoorW.PrintWords Go.Proofs.YtanabbjakacgbaaGreatDoorW.PrintLast Go.Proofs.YtanabbjakacgbaaGreatDoorW.PrintMore Go.Proofs.YtanabbjakacgbaaGreatDoor.PM
set_option linter.unusedVariables false
set_option linter.unusedSimpArgs false
set_option maxRecDepth 100000
section
variable {P : Program}
theorem fill_step (place : Nat → Option (Nat × Nat)) (i off : Nat) (v : Value) (rest : List (Nat × Value)) (cells : Array Value) (hp : place i = some (off, v.cells.size)) (hle : off + v.cells.size ≤ cells.size) :
  Instr.fill place cells ((i, v) :: rest) = Instr.fill place ((v.cells.toList.zipIdx 0).foldl (fun cs (x : Value × Nat) => cs.setIfInBounds (off + x.2) x.1) cells) rest := by
 conv => lhs; unfold Instr.fill
 simp only [hp]
 rw [if_neg (by simp; omega)]
 congr 1
 rw [← Array.foldl_toList, Array.toList_zipIdx]
theorem fill_one (i : Nat) (v : Value) (cells : Array Value) (place : Nat → Option (Nat × Nat)) (hp : place i = some (0, v.cells.size)) (hn : cells.size = v.cells.size) : Instr.fill place cells [(i, v)] = some v.cells := by
 rw [fill_step place i 0 v [] cells hp (by omega)]
 show some _ = some _
 congr 1
 apply Array.ext_getElem?
 intro k
 rw [(Great.foldl_set 0 v.cells.toList 0 cells).2 k]
 simp only [Nat.zero_add, Nat.sub_zero, Nat.zero_le, true_and, Array.length_toList, Array.getElem?_toList]
 by_cases hk : k < v.cells.size
 ·rw [if_pos (by omega)]
 ·rw [if_neg (by omega), Array.getElem?_eq_none (by omega), Array.getElem?_eq_none (by omega)]
theorem fill_two (i j : Nat) (v u : Value) (cells : Array Value) (place : Nat → Option (Nat × Nat)) (hp : place i = some (0, v.cells.size)) (hq : place j = some (v.cells.size, u.cells.size)) (hn : cells.size = v.cells.size + u.cells.size) :
  Instr.fill place cells [(i, v), (j, u)] = some (v.cells ++ u.cells) := by
 have hA := Great.foldl_set 0 v.cells.toList 0 cells
 rw [fill_step place i 0 v _ cells hp (by omega), fill_step place j v.cells.size u [] _ hq (by rw [hA.1]; omega)]
 show some _ = some _
 congr 1
 apply Array.ext_getElem?
 intro k
 rw [(Great.foldl_set v.cells.size u.cells.toList 0 _).2 k, hA.2 k, hA.1, Array.getElem?_append]
 simp only [Nat.zero_add, Nat.add_zero, Nat.sub_zero, Nat.zero_le, true_and, Array.length_toList, Array.getElem?_toList]
 by_cases h1 : k < v.cells.size
 ·rw [if_neg (by omega), if_pos (by omega), if_pos h1]
 ·by_cases h2 : k < v.cells.size + u.cells.size
  ·rw [if_pos (by omega), if_neg h1]
  ·rw [if_neg (by omega), if_neg (by omega), if_neg h1, Array.getElem?_eq_none (by omega), Array.getElem?_eq_none (by omega)]
theorem wpList_bs1 {ops : Array Oper} {rest : List Oper} {o : Oper} {a : Act} {w : World} {Q : Exit → Act → World → Prop} (hg : o.guard = none) (t e : TypeId) (x : Operand) (ho : o.op = .buildSlice t 1 #[(0, x)]) (v : Value) (hx : a.eval x = v)
  (n bytes : Nat) (z : Value) (hu : P.underlying t = some (.slice e)) (hinfo : (P.info? e).map (fun i => (i.zero, i.size, i.bytes)) = some (some z, n, bytes)) (hv : v.cells.size = n) (hpos : 0 < n) (hsm : n ≤ 2 ^ 24)
  (h : wpList P ops Q rest (a.put o.dst (.slice (some ⟨w.heap.size, 0, none⟩) 1 1)) (w.alloc (.cells v.cells e))) : wpList P ops Q (o :: rest) a w := by
 obtain ⟨ie, hi, hzz⟩ := Option.map_eq_some_iff.1 hinfo
 simp only [Prod.mk.injEq] at hzz
 refine wpList_buildSlice hg t e 1 _ ho v.cells ie z hu hi hzz.1 (by rw [hzz.2.1]; omega) (by rw [hzz.2.1]; omega) ?_ h
 rw [hzz.2.1, ← hv]
 have : (Array.map (fun x : Nat × Operand => (x.1, a.eval x.2)) #[(0, x)]).toList = [(0, v)] := by simp [hx]
 rw [this]
 exact fill_one 0 v _ _ (by simp) (by simp)
theorem wpList_app {α : Type} (d : Kd α) {wa W : World} {ops : Array Oper} {rest : List Oper} {o : Oper} {a : Act} {Q : Exit → Act → World → Prop} (hgd : o.guard = none) (s x : Operand) (t e : TypeId) (ho : o.op = .call { callee := .builtin .append, args := #[s, x], argTypes := #[t, t] })
  (z : Value) (bytes : Nat) (ht : P.underlying t = some (.slice e)) (hinfo : (P.info? e).map (fun i => (i.zero, i.size, i.bytes)) = some (some z, d.sz, bytes)) (hz : z.cells.size = d.sz) (hs0 : 0 < d.sz) (hb0 : 0 < bytes) (hb1 : bytes ≤ 1000)
  (v : Value) (xs : List α) (p : α) (cs : List Value) (hs : a.eval s = v) (hx : a.eval x = .slice (some ⟨W.heap.size, 0, none⟩) 1 1) (B : Nat) (hp : d.M W B (fun _ => False) p cs) (HO : d.R e W B (fun _ => True) v xs) (HB : Below B wa W) (hB : B ≤ W.heap.size) (hl : xs.length ≤ 1000000)
  (h : ∀ v1 w1, d.R e w1 B (fun _ => True) v1 (xs ++ [p]) → Below B wa w1 → W.heap.size ≤ w1.heap.size → wpList P ops Q rest (a.put o.dst v1) w1) : wpList P ops Q (o :: rest) a (W.alloc (.cells cs.toArray e)) :=
 Kd.R_append d B hgd s x t e z bytes ho ht hinfo hz hs0 hb0 v xs p cs (fun _ => True) (fun _ => False) hs hx hp (fun _ hk => hk.elim) (fun _ _ => trivial) HO HB hB
  (by have : (xs.length + 1) * bytes ≤ (1000000 + 1) * 1000 := Nat.mul_le_mul (by omega) hb1; omega) (fun v1 w1 h1 h2 h3 _ => h v1 w1 h1 h2 h3.size)
theorem run_buildSlice0 (w : World) (t e : TypeId) (hu : P.underlying t = some (.slice e)) (n bytes : Nat) (z : Value) (hinfo : (P.info? e).map (fun i => (i.zero, i.size, i.bytes)) = some (some z, n, bytes)) :
  (Instr.buildSlice t 0 #[]).run P w = .ok (.slice (some ⟨w.heap.size, 0, none⟩) 0 0) (w.alloc (.cells #[] e)) := by
 obtain ⟨ie, hi, hzz⟩ := Option.map_eq_some_iff.1 hinfo
 simp [Instr.buildSlice, run_underlying hu, sizeOf, typeInfo, zeroValue, hi, newRow, Instr.fill]
 rw [show Array.range 0 = #[] from rfl, Array.map_empty]
theorem wpList_bs0 {α : Type} (d : Kd α) {wa W : World} {ops : Array Oper} {rest : List Oper} {o : Oper} {a : Act} {Q : Exit → Act → World → Prop} (hgd : o.guard = none) (t e : TypeId) (ho : o.op = .buildSlice t 0 #[]) {N : Tmp} (hN : o.dst = some N)
  (n bytes : Nat) (z : Value) (ht : P.underlying t = some (.slice e)) (hinfo : (P.info? e).map (fun i => (i.zero, i.size, i.bytes)) = some (some z, n, bytes)) (B : Nat) (HB : Below B wa W) (hB : B ≤ W.heap.size)
  (h : ∀ v1 w1, d.R e w1 B (fun _ => True) v1 [] → Below B wa w1 → W.heap.size ≤ w1.heap.size → wpList P ops Q rest (a.put o.dst v1) w1) : wpList P ops Q (o :: rest) a W := by
 refine Kd.R_lit d B e hgd hN (xs := ([] : List α)) (inner := []) (ok := fun _ => True) (okp := fun _ => True) ?_ (Reps.none _ _) (fun _ hk => hk) trivial HB hB (by simp) (fun v1 w1 h1 h2 h3 _ => h v1 w1 h1 h2 h3.size)
 unfold execOp
 simp only [ho, Sem.run_bind, List.map_toArray, List.map_nil]
 rw [run_buildSlice0 W t e ht n bytes z hinfo]
 rfl
end
theorem zS_cells : cS zS = #[(.int .u8 0), (.int .u8 0), (.int .u8 0), (.int .u8 0), (.int .u8 0), (.int .u8 0), (.int .u8 0), (.int .u8 0), (.int .u8 0), (.int .u8 0), (.int .u8 0), (.int .u8 0), (.int .u8 0), (.int .u8 0), (.int .u8 0), (.int .u8 0), (.int .u8 0), (.int .u8 0), (.int .u8 0), (.int .u8 0), (.int .u8 0), (.int .u8 0), (.int .u8 0), (.int .u8 0), (.int .u8 0), (.int .u8 0), (.int .u8 0), (.int .u8 0), (.int .u8 0), (.int .u8 0), (.int .u8 0), (.int .u8 0)] := rfl
theorem infoS : (Tryz.prog.info? 30).map (fun i => (i.zero, i.size, i.bytes)) = some (some (.agg (cS zS)), 32, 32) := by kernel_rfl
theorem infoL : (Tryz.prog.info? 32).map (fun i => (i.zero, i.size, i.bytes)) = some (some (.agg (cL zL)), 33, 48) := by kernel_rfl
theorem infoI : (Tryz.prog.info? 77).map (fun i => (i.zero, i.size, i.bytes)) = some (some (.agg (cI zI)), 65, 80) := by kernel_rfl
theorem infoJ : (Tryz.prog.info? 64).map (fun i => (i.zero, i.size, i.bytes)) = some (some (.agg (cI zI)), 65, 80) := by kernel_rfl
theorem infoStr : (Tryz.prog.info? 9).map (fun i => (i.zero, i.size, i.bytes)) = some (some (.string ByteArray.empty), 1, 16) := by kernel_rfl
section
variable {ops : Array Oper} {rest : List Oper} {o : Oper} {a : Act} {Q : Exit → Act → World → Prop} {w wa W : World}
theorem bs0_L (hg : o.guard = none) (ho : o.op = .buildSlice 25 0 #[]) {N : Tmp} (hN : o.dst = some N) (B : Nat) (HB : Below B wa W) (hB : B ≤ W.heap.size) (h : ∀ v1 w1, kL.R 32 w1 B (fun _ => True) v1 [] → Below B wa w1 → W.heap.size ≤ w1.heap.size → wpList Tryz.prog ops Q rest (a.put o.dst v1) w1) : wpList Tryz.prog ops Q (o :: rest) a W :=
 wpList_bs0 kL hg 25 32 ho hN 33 48 _ Tryz.underlying25 infoL B HB hB h
theorem bs0_J (hg : o.guard = none) (ho : o.op = .buildSlice 56 0 #[]) {N : Tmp} (hN : o.dst = some N) (B : Nat) (HB : Below B wa W) (hB : B ≤ W.heap.size) (h : ∀ v1 w1, kI.R 64 w1 B (fun _ => True) v1 [] → Below B wa w1 → W.heap.size ≤ w1.heap.size → wpList Tryz.prog ops Q rest (a.put o.dst v1) w1) : wpList Tryz.prog ops Q (o :: rest) a W :=
 wpList_bs0 kI hg 56 64 ho hN 65 80 _ Tryz.underlying56 infoJ B HB hB h
theorem bs0_Str (hg : o.guard = none) (ho : o.op = .buildSlice 36 0 #[]) {N : Tmp} (hN : o.dst = some N) (B : Nat) (HB : Below B wa W) (hB : B ≤ W.heap.size) (h : ∀ v1 w1, Kd.string.R 9 w1 B (fun _ => True) v1 [] → Below B wa w1 → W.heap.size ≤ w1.heap.size → wpList Tryz.prog ops Q rest (a.put o.dst v1) w1) : wpList Tryz.prog ops Q (o :: rest) a W :=
 wpList_bs0 Kd.string hg 36 9 ho hN 1 16 _ Tryz.underlying36 infoStr B HB hB h
theorem bs1_L (hg : o.guard = none) (x : Operand) (ho : o.op = .buildSlice 25 1 #[(0, x)]) (p : Lf) (hx : a.eval x = .agg (cL p)) (h : wpList Tryz.prog ops Q rest (a.put o.dst (.slice (some ⟨w.heap.size, 0, none⟩) 1 1)) (w.alloc (.cells (cL p) 32))) : wpList Tryz.prog ops Q (o :: rest) a w :=
 wpList_bs1 hg 25 32 x ho _ hx 33 48 _ Tryz.underlying25 infoL (cL_size p) (by decide) (by decide) h
theorem bs1_J (hg : o.guard = none) (x : Operand) (ho : o.op = .buildSlice 56 1 #[(0, x)]) (p : It) (hx : a.eval x = .agg (cI p)) (h : wpList Tryz.prog ops Q rest (a.put o.dst (.slice (some ⟨w.heap.size, 0, none⟩) 1 1)) (w.alloc (.cells (cI p) 64))) : wpList Tryz.prog ops Q (o :: rest) a w :=
 wpList_bs1 hg 56 64 x ho _ hx 65 80 _ Tryz.underlying56 infoJ (cI_size p) (by decide) (by decide) h
theorem bs1_I (hg : o.guard = none) (x : Operand) (ho : o.op = .buildSlice 69 1 #[(0, x)]) (p : It) (hx : a.eval x = .agg (cI p)) (h : wpList Tryz.prog ops Q rest (a.put o.dst (.slice (some ⟨w.heap.size, 0, none⟩) 1 1)) (w.alloc (.cells (cI p) 77))) : wpList Tryz.prog ops Q (o :: rest) a w :=
 wpList_bs1 hg 69 77 x ho _ hx 65 80 _ Tryz.underlying69 infoI (cI_size p) (by decide) (by decide) h
theorem bs1_S (hg : o.guard = none) (x : Operand) (ho : o.op = .buildSlice 28 1 #[(0, x)]) (p : Sm) (hx : a.eval x = .agg (cS p)) (h : wpList Tryz.prog ops Q rest (a.put o.dst (.slice (some ⟨w.heap.size, 0, none⟩) 1 1)) (w.alloc (.cells (cS p) 30))) : wpList Tryz.prog ops Q (o :: rest) a w :=
 wpList_bs1 hg 28 30 x ho _ hx 32 32 _ Tryz.underlying28 infoS (cS_size p) (by decide) (by decide) h
theorem bs1_Str (hg : o.guard = none) (x : Operand) (ho : o.op = .buildSlice 36 1 #[(0, x)]) (p : ByteArray) (hx : a.eval x = .string p) (h : wpList Tryz.prog ops Q rest (a.put o.dst (.slice (some ⟨w.heap.size, 0, none⟩) 1 1)) (w.alloc (.cells #[Value.string p] 9))) : wpList Tryz.prog ops Q (o :: rest) a w :=
 wpList_bs1 hg 36 9 x ho _ hx 1 16 _ Tryz.underlying36 infoStr rfl (by decide) (by decide) h
theorem app_L (hg : o.guard = none) (s x : Operand) (ho : o.op = .call { callee := .builtin .append, args := #[s, x], argTypes := #[25, 25] }) (v : Value) (xs : List Lf) (p : Lf) (hs : a.eval s = v) (hx : a.eval x = .slice (some ⟨W.heap.size, 0, none⟩) 1 1) (B : Nat) (HO : kL.R 32 W B (fun _ => True) v xs) (HB : Below B wa W) (hB : B ≤ W.heap.size) (hl : xs.length ≤ 1000000)
  (h : ∀ v1 w1, kL.R 32 w1 B (fun _ => True) v1 (xs ++ [p]) → Below B wa w1 → W.heap.size ≤ w1.heap.size → wpList Tryz.prog ops Q rest (a.put o.dst v1) w1) : wpList Tryz.prog ops Q (o :: rest) a (W.alloc (.cells (cL p) 32)) :=
 by
  have h9 := wpList_app kL hg s x 25 32 ho _ 48 Tryz.underlying25 infoL (cL_size _) (by decide) (by decide) (by decide) v xs p _ hs hx B rfl HO HB hB hl h
  rwa [Array.toArray_toList] at h9
theorem app_J (hg : o.guard = none) (s x : Operand) (ho : o.op = .call { callee := .builtin .append, args := #[s, x], argTypes := #[56, 56] }) (v : Value) (xs : List It) (p : It) (hs : a.eval s = v) (hx : a.eval x = .slice (some ⟨W.heap.size, 0, none⟩) 1 1) (B : Nat) (HO : kI.R 64 W B (fun _ => True) v xs) (HB : Below B wa W) (hB : B ≤ W.heap.size) (hl : xs.length ≤ 1000000)
  (h : ∀ v1 w1, kI.R 64 w1 B (fun _ => True) v1 (xs ++ [p]) → Below B wa w1 → W.heap.size ≤ w1.heap.size → wpList Tryz.prog ops Q rest (a.put o.dst v1) w1) : wpList Tryz.prog ops Q (o :: rest) a (W.alloc (.cells (cI p) 64)) :=
 by
  have h9 := wpList_app kI hg s x 56 64 ho _ 80 Tryz.underlying56 infoJ (cI_size _) (by decide) (by decide) (by decide) v xs p _ hs hx B rfl HO HB hB hl h
  rwa [Array.toArray_toList] at h9
theorem app_I (hg : o.guard = none) (s x : Operand) (ho : o.op = .call { callee := .builtin .append, args := #[s, x], argTypes := #[69, 69] }) (v : Value) (xs : List It) (p : It) (hs : a.eval s = v) (hx : a.eval x = .slice (some ⟨W.heap.size, 0, none⟩) 1 1) (B : Nat) (HO : kI.R 77 W B (fun _ => True) v xs) (HB : Below B wa W) (hB : B ≤ W.heap.size) (hl : xs.length ≤ 1000000)
  (h : ∀ v1 w1, kI.R 77 w1 B (fun _ => True) v1 (xs ++ [p]) → Below B wa w1 → W.heap.size ≤ w1.heap.size → wpList Tryz.prog ops Q rest (a.put o.dst v1) w1) : wpList Tryz.prog ops Q (o :: rest) a (W.alloc (.cells (cI p) 77)) :=
 by
  have h9 := wpList_app kI hg s x 69 77 ho _ 80 Tryz.underlying69 infoI (cI_size _) (by decide) (by decide) (by decide) v xs p _ hs hx B rfl HO HB hB hl h
  rwa [Array.toArray_toList] at h9
theorem app_S (hg : o.guard = none) (s x : Operand) (ho : o.op = .call { callee := .builtin .append, args := #[s, x], argTypes := #[28, 28] }) (v : Value) (xs : List Sm) (p : Sm) (hs : a.eval s = v) (hx : a.eval x = .slice (some ⟨W.heap.size, 0, none⟩) 1 1) (B : Nat) (HO : kS.R 30 W B (fun _ => True) v xs) (HB : Below B wa W) (hB : B ≤ W.heap.size) (hl : xs.length ≤ 1000000)
  (h : ∀ v1 w1, kS.R 30 w1 B (fun _ => True) v1 (xs ++ [p]) → Below B wa w1 → W.heap.size ≤ w1.heap.size → wpList Tryz.prog ops Q rest (a.put o.dst v1) w1) : wpList Tryz.prog ops Q (o :: rest) a (W.alloc (.cells (cS p) 30)) :=
 by
  have h9 := wpList_app kS hg s x 28 30 ho _ 32 Tryz.underlying28 infoS (cS_size _) (by decide) (by decide) (by decide) v xs p _ hs hx B rfl HO HB hB hl h
  rwa [Array.toArray_toList] at h9
theorem app_Str (hg : o.guard = none) (s x : Operand) (ho : o.op = .call { callee := .builtin .append, args := #[s, x], argTypes := #[36, 36] }) (v : Value) (xs : List ByteArray) (p : ByteArray) (hs : a.eval s = v) (hx : a.eval x = .slice (some ⟨W.heap.size, 0, none⟩) 1 1) (B : Nat) (HO : Kd.string.R 9 W B (fun _ => True) v xs) (HB : Below B wa W) (hB : B ≤ W.heap.size) (hl : xs.length ≤ 1000000)
  (h : ∀ v1 w1, Kd.string.R 9 w1 B (fun _ => True) v1 (xs ++ [p]) → Below B wa w1 → W.heap.size ≤ w1.heap.size → wpList Tryz.prog ops Q rest (a.put o.dst v1) w1) : wpList Tryz.prog ops Q (o :: rest) a (W.alloc (.cells #[Value.string p] 9)) :=
 wpList_app Kd.string hg s x 36 9 ho _ 16 Tryz.underlying36 infoStr rfl (by decide) (by decide) (by decide) v xs p _ hs hx B rfl HO HB hB hl h
theorem bld_J (hg : o.guard = none) (x y : Operand) (ho : o.op = .build 64 #[(0, x), (1, y)]) (p : Lf) (q : Sm) (hx : a.eval x = .agg (cL p)) (hy : a.eval y = .agg (cS q)) (h : wpList Tryz.prog ops Q rest (a.put o.dst (.agg (cI ⟨p, q⟩))) w) : wpList Tryz.prog ops Q (o :: rest) a w := by
 refine wpList_built hg 64 _ ho (cI ⟨p, q⟩) ?_ h
 have e : (Array.map (fun x : Nat × Operand => (x.1, a.eval x.2)) #[(0, x), (1, y)]).toList = [(0, .agg (cL p)), (1, .agg (cS q))] := by simp [hx, hy]
 rw [e]
 exact fill_two 0 1 (.agg (cL p)) (.agg (cS q)) (cI zI) (#[(0, 33), (33, 32)][·]?) (by show some (0, 33) = some (0, (cL p).size); rw [cL_size]) (by show some (33, 32) = some ((cL p).size, (cS q).size); rw [cL_size, cS_size]) (by show (cI zI).size = (cL p).size + (cS q).size; rw [cL_size, cS_size, cI_size])
theorem bld_I (hg : o.guard = none) (x y : Operand) (ho : o.op = .build 77 #[(0, x), (1, y)]) (p : Lf) (q : Sm) (hx : a.eval x = .agg (cL p)) (hy : a.eval y = .agg (cS q)) (h : wpList Tryz.prog ops Q rest (a.put o.dst (.agg (cI ⟨p, q⟩))) w) : wpList Tryz.prog ops Q (o :: rest) a w := by
 refine wpList_built hg 77 _ ho (cI ⟨p, q⟩) ?_ h
 have e : (Array.map (fun x : Nat × Operand => (x.1, a.eval x.2)) #[(0, x), (1, y)]).toList = [(0, .agg (cL p)), (1, .agg (cS q))] := by simp [hx, hy]
 rw [e]
 exact fill_two 0 1 (.agg (cL p)) (.agg (cS q)) (cI zI) (#[(0, 33), (33, 32)][·]?) (by show some (0, 33) = some (0, (cL p).size); rw [cL_size]) (by show some (33, 32) = some ((cL p).size, (cS q).size); rw [cL_size, cS_size]) (by show (cI zI).size = (cL p).size + (cS q).size; rw [cL_size, cS_size, cI_size])
theorem bld_L (hg : o.guard = none) (x y : Operand) (ho : o.op = .build 32 #[(0, x), (1, y)]) (p : ByteArray) (q : Sm) (hx : a.eval x = .string p) (hy : a.eval y = .agg (cS q)) (h : wpList Tryz.prog ops Q rest (a.put o.dst (.agg (cL ⟨p, q⟩))) w) : wpList Tryz.prog ops Q (o :: rest) a w := by
 refine wpList_built hg 32 _ ho (cL ⟨p, q⟩) ?_ h
 have e : (Array.map (fun x : Nat × Operand => (x.1, a.eval x.2)) #[(0, x), (1, y)]).toList = [(0, .string p), (1, .agg (cS q))] := by simp [hx, hy]
 rw [e]
 exact fill_two 0 1 (.string p) (.agg (cS q)) (cL zL) (#[(0, 1), (1, 32)][·]?) rfl (by show some (1, 32) = some (1, (cS q).size); rw [cS_size]) (by show (cL zL).size = 1 + (cS q).size; rw [cS_size, cL_size])
end
end Go.Proofs.YtanabbjakacgbaaGreatDoor.Sp
namespace Go.Proofs.YtanabbjakacgbaaGreatDoor.Sp
open Go.RowKit Go.Proofs.YtanabbjakacgbaaGreatDoorW.PrintWords Go.Proofs.YtanabbjakacgbaaGreatDoorW.PrintLast Go.Proofs.YtanabbjakacgbaaGreatDoorW.PrintMore Go.Proofs.YtanabbjakacgbaaGreatDoor.PM
set_option linter.unusedVariables false
set_option linter.unusedSimpArgs false
set_option maxRecDepth 100000
theorem take_succ' {α : Type} {l : List α} {n : Nat} (z : α) (hn : n < l.length) : l.take (n + 1) = l.take n ++ [l.getD n z] := by
 rw [List.take_add_one, List.getElem?_eq_getElem hn, List.getD_eq_getElem?_getD, List.getElem?_eq_getElem hn]
 rfl
theorem mem_take_succ {α : Type} {l : List α} {n : Nat} {z y : α} (hn : n < l.length) : y ∈ l.take (n + 1) ↔ y ∈ l.take n ∨ y = l.getD n z := by
 rw [take_succ' z hn]; simp
theorem getD_mem' {α : Type} {l : List α} {n : Nat} {z : α} (hn : n < l.length) : l.getD n z ∈ l := by
 rw [List.getD_eq_getElem?_getD, List.getElem?_eq_getElem hn]
 exact List.getElem_mem _
theorem below_drewN {b : Nat} {w w' : World} (h : Below b w w') (m : Nat) : Below b w (w'.drewN m) := ⟨h.os, h.tape, h.output, h.size, h.block⟩
set_option maxHeartbeats 1000000 in
theorem leaves_calls (l : List It) (A : Option Addr) (c : Nat) (w : World) (hr : kI.C w A l.length l) (hc : l.length ≤ c) (hl : l.length ≤ 1000000) :
  Calls Tryz.prog 58 #[.slice A l.length c] w fun e w' => ∃ v, e = .returned v ∧ kL.R 32 w' w.heap.size (fun _ => True) v (l.map (·.x)) ∧ Below w.heap.size w w' := by
 have HS := Aside0.mk hr
 clear hr
 go_enter Tryz.func58, Tryz.ntmps58
 go_wp2_with (first
  | (refine bs0_L (wa := w) rfl rfl rfl w.heap.size (Below.refl _ _) (Nat.le_refl _) ?_; intro v0 w0 hr0 hb0 hs0; have H0 := Aside0.mk (And.intro hr0 hb0); clear hr0 hb0 hs0))
 go_loopw [3, 4] (fun v i wr => ∃ n : Nat, i = .int .i64 (n : Int) ∧ n ≤ l.length ∧ Aside0 (kL.R 32 wr w.heap.size (fun _ => True) v ((l.take n).map (·.x)) ∧ Below w.heap.size w wr)) (fun _ i _ => l.length - (intOf i).toNat)
 case atStart => exact ⟨0, rfl, by omega, H0⟩
 case round =>
  clear H0
  obtain ⟨n, rfl, hn, HR⟩ := hrel
  by_cases c5 : n < l.length
  ·have c5b : (n : Int) < (l.length : Int) := by omega
   obtain ⟨y, hy⟩ : ∃ y, y = l.getD n zI := ⟨_, rfl⟩
   obtain ⟨ad, eA, hat⟩ := at_flat HS.out zI (n : Int) (by omega) c5b
   subst eA
   rw [show ((n : Int).toNat) = n by omega, ← hy] at hat
   have c5c := eq_true c5b
   have c5d : ((0 : Int) ≤ (n : Int)) = True := eq_true (by omega)
   have hl1 := le_L (at_I0 hat) HR.out.2
   clear hat
   have HY := Aside0.mk hy
   clear hy
   go_wp2_with (first
    | (refine wpList_loadv rfl _ _ rfl _ rfl _ (hl1 0) ?_)
    | (refine bs1_L rfl _ rfl y.x rfl ?_)
    | ((with_reducible refine gate_builtin (b := .append) rfl ?_); (refine app_L (wa := w) rfl (.tmp 12) (.tmp 18) rfl u3 _ y.x rfl rfl w.heap.size HR.out.1 HR.out.2 HR.out.2.size (by rw [List.length_map, List.length_take]; omega) ?_); intro v1 w1 hr1 hb1 hs1; have H1 := Aside0.mk (And.intro hr1 hb1); clear hr1 hb1 hs1))
   refine ⟨⟨n + 1, by simp, by omega, ⟨?_, H1.out.2⟩⟩, by simp [intOf]; omega⟩
   rw [take_succ' zI c5, List.map_append, ← HY.out]
   exact H1.out.1
  ·obtain rfl : n = l.length := by omega
   go_wp2
   go_ret
   exact ⟨_, rfl, by have := HR.out.1; rwa [List.take_length] at this, HR.out.2⟩
set_option maxHeartbeats 1000000 in
theorem Has_calls (l : List Lf) (x : Lf) (A : Option Addr) (c : Nat) (w : World) (hr : kL.C w A l.length l) (hc : l.length ≤ c) (hl : l.length ≤ 1000000) :
  Calls Tryz.prog 78 #[.slice A l.length c, .agg (cL x)] w fun e w' => e = .returned (.bool (decide (x ∈ l))) ∧ Below w.heap.size w w' := by
 have HS := Aside0.mk hr
 clear hr
 go_enter Tryz.func78, Tryz.ntmps78
 go_wp2
 have H0 : Aside0 (Below w.heap.size w (w.alloc (.cells (cL x) 32)) ∧ (w.alloc (.cells (cL x) 32)).heap[w.heap.size]? = some (.cells (cL x) 32 (0, 0))) := ⟨⟨below_alloc (Below.refl _ _) _, h_new rfl⟩⟩
 go_loopw [5] (fun i wr => ∃ n : Nat, i = .int .i64 (n : Int) ∧ n ≤ l.length ∧ Aside0 (∀ y ∈ l.take n, y ≠ x) ∧ Aside0 (Below w.heap.size w wr ∧ wr.heap[w.heap.size]? = some (.cells (cL x) 32 (0, 0)))) (fun i _ => l.length - (intOf i).toNat)
 case atStart => exact ⟨0, rfl, by omega, ⟨by simp⟩, H0⟩
 case round =>
  clear H0
  obtain ⟨n, rfl, hn, HN, HR⟩ := hrel
  by_cases c5 : n < l.length
  ·have c5b : (n : Int) < (l.length : Int) := by omega
   obtain ⟨y, hy⟩ : ∃ y, y = l.getD n zL := ⟨_, rfl⟩
   obtain ⟨ad, eA, hat⟩ := at_flat HS.out zL (n : Int) (by omega) c5b
   subst eA
   rw [show ((n : Int).toNat) = n by omega, ← hy] at hat
   have c5c := eq_true c5b
   have c5d : ((0 : Int) ≤ (n : Int)) = True := eq_true (by omega)
   have hl1 := le_L hat HR.out.1
   have hl2 := ld_L HR.out.2
   clear hat
   have HY := Aside0.mk hy
   clear hy
   go_wp2
   refine wp_region_quiet_lit (by kernel_rfl) (by kernel_rfl) ?_
   repeat (first
    | (refine wpQuiet_load (fun _ h => h) rfl _ _ rfl _ rfl _ (by first | exact hl1 | exact hl2) _ rfl ?_; simp only [Act.put, lZa, lZb, lZc])
    | (refine wpQuiet_eql rfl _ _ _ _ rfl _ _ rfl rfl gt_L _ (fun w => eqL w _ _) _ rfl ?_; simp only [Act.put, lZa, lZb, lZc])
    | (refine wpQuiet_neq rfl _ _ _ _ rfl _ _ rfl rfl gt_L _ (fun w => eqL w _ _) _ rfl ?_; simp only [Act.put, lZa, lZb, lZc])
    | (refine wpQuiet_eql rfl _ _ _ _ rfl _ _ rfl rfl gt_S _ (fun w => eqS w _ _) _ rfl ?_; simp only [Act.put, lZa, lZb, lZc])
    | (refine wpQuiet_neq rfl _ _ _ _ rfl _ _ rfl rfl gt_S _ (fun w => eqS w _ _) _ rfl ?_; simp only [Act.put, lZa, lZb, lZc])
    | (refine wpQuiet_eql rfl _ _ _ _ rfl _ _ rfl rfl gt_I _ (fun w => eqI w _ _) _ rfl ?_; simp only [Act.put, lZa, lZb, lZc])
    | (refine wpQuiet_neq rfl _ _ _ _ rfl _ _ rfl rfl gt_I _ (fun w => eqI w _ _) _ rfl ?_; simp only [Act.put, lZa, lZb, lZc])
    | (refine wpQuiet_field rfl _ _ _ rfl _ rfl _ (fun w => by first | exact fld_L0 w _ | exact fld_L1 w _ | exact fld_I0 w _ | exact fld_I1 w _ | exact fld_J0 w _ | exact fld_J1 w _) _ rfl ?_; simp only [Act.put, lZa, lZb, lZc])
    | (go_big_quiet_step (fail)))
   refine wpQuiet_nil ?_
   rintro _ ⟨nq, rfl⟩
   by_cases hyx : y = x
   ·go_wp2
    go_ret
    exact ⟨by rw [decide_eq_true (show x ∈ l by rw [← hyx, HY.out]; exact getD_mem' c5)]; rfl, below_drewN HR.out.1 _⟩
   ·go_wp2
    refine ⟨⟨n + 1, by simp, by omega, ⟨?_⟩, ⟨below_drewN HR.out.1 _, HR.out.2⟩⟩, by simp [intOf]; omega⟩
    intro z hz
    rcases (mem_take_succ (z := zL) c5).1 hz with h | h
    ·exact HN.out z h
    ·rw [h, ← HY.out]; exact hyx
  ·obtain rfl : n = l.length := by omega
   have c5b : ¬ ((l.length : Int) < (l.length : Int)) := by omega
   have hx : x ∉ l := fun h => HN.out x (by rw [List.take_length]; exact h) rfl
   go_wp2
   go_ret
   exact ⟨by simp [hx], HR.out.1⟩
end Go.Proofs.YtanabbjakacgbaaGreatDoor.Sp
namespace Go.Proofs.YtanabbjakacgbaaGreatDoor.Sp
open Go.RowKit Go.Proofs.YtanabbjakacgbaaGreatDoorW.PrintWords Go.Proofs.YtanabbjakacgbaaGreatDoorW.PrintLast Go.Proofs.YtanabbjakacgbaaGreatDoorW.PrintMore Go.Proofs.YtanabbjakacgbaaGreatDoor.PM
set_option linter.unusedVariables false
set_option linter.unusedSimpArgs false
set_option maxRecDepth 100000
section
variable {P : Program} {ops : Array Oper} {Q : Exit → Act → World → Prop} {md : Region.Mode} {S : World → Prop} {ds : List Nat}
theorem wpAnyLast_of_any : ∀ (fuel : Nat) (l : Array Bool) (a : Act) (w : World), (∀ i, i < ops.size → l.getD i true = false → i ∈ ds) → wpAny P md ops Q fuel l a w → wpAnyLast P md ops Q S ds fuel l a w
 | 0, _, _, _, _, h => h
 | fuel + 1, l, a, w, hd, h => ⟨h.1, fun i hi => by
   have hun := (mem_ready.1 hi).1
   obtain ⟨_, oi, hoi, _⟩ := mem_ready.1 hi
   have hlt : i < ops.size := by
    rcases Nat.lt_or_ge i ops.size with h' | h'
    ·exact h'
    ·rw [Array.getElem?_eq_none h'] at hoi; cases hoi
   have him : i ∈ ds := hd i hlt hun
   refine wpOp_mono (fun a' w' h' => ⟨fun hn => absurd him hn, wpAnyLast_of_any fuel _ a' w' (fun j hj hu => ?_) h'⟩) (h.2 i hi)
   refine hd j hj ?_
   by_cases hji : i = j
   ·subst hji; exact hun
   ·rwa [getD_set_ne true hji] at hu⟩
def tailB (md : Region.Mode) (ops : Array Oper) (ds : List Nat) (l : Array Bool) (n fuel : Nat) : Bool :=
 Region.seqB md ops fuel n l && (fuel == ops.size - n) && ((List.range ops.size).all fun i => l.getD i true || ds.contains i)
theorem tail_ {l : Array Bool} {a : Act} {w : World} {fuel : Nat} (n : Nat) (hB : tailB md ops ds l n fuel = true) (h : wpList P ops Q (ops.toList.drop n) a w) : wpAnyLast P md ops Q S ds fuel l a w := by
 simp only [tailB, Bool.and_eq_true, beq_iff_eq] at hB
 obtain ⟨⟨h1, h2⟩, h3⟩ := hB
 refine wpAnyLast_of_any fuel l a w (fun i hi hu => ?_) ?_
 ·have := List.all_eq_true.1 h3 i (List.mem_range.2 hi)
  rw [hu] at this
  simpa using this
 ·have hs := wpAny_of_seq (P := P) (md := md) (ops := ops) (Q' := Q) (ops.toList.drop n) n l a w (fun j => by simp) (by rw [show (ops.toList.drop n).length = ops.size - n by simp, ← h2]; exact h1) h
  rwa [show (ops.toList.drop n).length = ops.size - n by simp, ← h2] at hs
end
theorem H_enc (l : List Int) : encI (sumL l) = cS (H l) := by rw [cS, H_b]
theorem sum3H_calls (l : List Int) (A : Option Addr) (c : Nat) (hb : ∀ b ∈ l, 0 ≤ b ∧ b < 256) (hc : l.length ≤ c) (hm : l.length ≤ 1000000000) (w : World) (hr : Kd.C (Kd.int .u8) w A l.length l) :
  Calls Tryz.prog 27 #[.slice A l.length c] w fun e w' => e = .returned (.agg (cS (H l))) ∧ Below w.heap.size w w' := by
 have h := sum3_calls l A c hb hc hm w hr
 rwa [sum_eq l hb, H_enc] at h
theorem sumH_calls (l : List Int) (A : Option Addr) (c : Nat) (hb : ∀ b ∈ l, 0 ≤ b ∧ b < 256) (hc : l.length ≤ c) (hm : l.length ≤ 1000000000) (w : World) (hW : Words w) (hr : Kd.C (Kd.int .u8) w A l.length l) :
  Calls Tryz.prog 62 #[.slice A l.length c] w fun e w' => e = .returned (.agg (cS (H l))) ∧ Below w.heap.size w w' := by
 have h := sum_calls l A c hb hc (by omega) w hW hr
 rwa [H_enc] at h
theorem of3H_calls (tag : Int) (ht : 0 ≤ tag ∧ tag < 256) (ps : List (List Int)) (hf : Fit ps) (A : Option Addr) (c : Nat) (w : World) (hr : Kd.C (Kd.slice 5 (Kd.int .u8)) w A ps.length ps) (hc : ps.length ≤ c) :
  Calls Tryz.prog 25 #[.int .u8 tag, .slice A ps.length c] w fun e w' => e = .returned (.agg (cS (hof tag ps))) ∧ Below w.heap.size w w' := R3Of_calls tag ht ps hf A c w hr hc
def hk (k : ByteArray) : Sm := H (bytesOf k)
theorem bytesOf_ok (k : ByteArray) : ∀ b ∈ bytesOf k, 0 ≤ b ∧ b < 256 := by
 intro b hb
 obtain ⟨x, _, rfl⟩ := List.mem_map.1 hb
 have := x.toNat_lt
 omega
theorem string_C {W : World} {s : ByteArray} (hs : s.size ≤ 1000000) : Kd.C (Kd.int .u8) (Lib.bytesWorld W 5 s) (some ⟨W.heap.size, 0, none⟩) (bytesOf s).length (bytesOf s) := by
 have h := bytes_reads W 5 s (by omega)
 rw [← bytesOf_length] at h
 exact Kd.C_of_reads (enc := Value.int .u8) (d := (0 : Int)) h
theorem sumK3_calls (k : ByteArray) (hs : k.size ≤ 1000000) (W : World) :
  Calls Tryz.prog 27 #[.slice (some ⟨W.heap.size, 0, none⟩) k.size (grownCap W k.size 0 5)] (Lib.bytesWorld W 5 k) fun e w' => e = .returned (.agg (cS (hk k))) ∧ Below (Lib.bytesWorld W 5 k).heap.size (Lib.bytesWorld W 5 k) w' := by
 have h := sum3H_calls (bytesOf k) (some ⟨W.heap.size, 0, none⟩) (grownCap W k.size 0 5) (bytesOf_ok k) (by rw [bytesOf_length]; exact grownCap_ge _ _ _ _) (by rw [bytesOf_length]; omega) _ (string_C (W := W) hs)
 rw [bytesOf_length] at h
 rwa [hk]
theorem sumKm_calls (k : ByteArray) (hs : k.size ≤ 1000000) (W : World) (hW : Words W) :
  Calls Tryz.prog 62 #[.slice (some ⟨W.heap.size, 0, none⟩) k.size (grownCap W k.size 0 5)] (Lib.bytesWorld W 5 k) fun e w' => e = .returned (.agg (cS (hk k))) ∧ Below (Lib.bytesWorld W 5 k).heap.size (Lib.bytesWorld W 5 k) w' := by
 have h := sumH_calls (bytesOf k) (some ⟨W.heap.size, 0, none⟩) (grownCap W k.size 0 5) (bytesOf_ok k) (by rw [bytesOf_length]; exact grownCap_ge _ _ _ _) (by rw [bytesOf_length]; omega) _ (hW.below (bytes_below (Below.refl _ _) (Nat.le_refl _) 5 k)) (string_C (W := W) hs)
 rw [bytesOf_length] at h
 rwa [hk]
theorem str_value {P : Program} {o : Oper} {a : Act} {w : World} (x : Operand) (ho : o.op = .convert 9 53 x) (s : ByteArray) (hx : a.eval x = .string s)
  (h9 : P.underlying 9 = some .string) (h50 : P.underlying 53 = some (.slice 5)) (h5 : P.underlying 5 = some (.int .u8)) :
  (execOp a.eval o).run P w = .ok (.value (.slice (some ⟨w.heap.size, 0, none⟩) s.size (grownCap w s.size 0 5))) (Lib.bytesWorld w 5 s) := by
 unfold execOp
 simp only [ho, hx, Sem.run_bind]
 rw [Lib.run_convert_string_bytes w 9 53 5 s h9 h50 h5]
 rfl
theorem wpList_str {P : Program} {ops : Array Oper} {rest : List Oper} {o : Oper} {a : Act} {w : World} {Q : Exit → Act → World → Prop} (hg : o.guard = none) (x : Operand) (ho : o.op = .convert 9 53 x) (s : ByteArray) (hx : a.eval x = .string s)
  (h9 : P.underlying 9 = some .string) (h50 : P.underlying 53 = some (.slice 5)) (h5 : P.underlying 5 = some (.int .u8))
  (h : wpList P ops Q rest (a.put o.dst (.slice (some ⟨w.heap.size, 0, none⟩) s.size (grownCap w s.size 0 5))) (Lib.bytesWorld w 5 s)) : wpList P ops Q (o :: rest) a w :=
 wpList_plain hg fun K hK => by
  unfold Oper.wp execOp
  simp only [ho, hx, Sem.run_bind]
  rw [Lib.run_convert_string_bytes w 9 53 5 s h9 h50 h5]
  exact hK _ _ h
end Go.Proofs.YtanabbjakacgbaaGreatDoor.Sp
namespace Go.Proofs.YtanabbjakacgbaaGreatDoor.Sp
open Go.RowKit Go.Proofs.YtanabbjakacgbaaGreatDoorW.PrintWords Go.Proofs.YtanabbjakacgbaaGreatDoorW.PrintLast Go.Proofs.YtanabbjakacgbaaGreatDoorW.PrintMore Go.Proofs.YtanabbjakacgbaaGreatDoor.PM
set_option linter.unusedVariables false
set_option linter.unusedSimpArgs false
set_option maxRecDepth 100000
def Small (l : List Lf) : Prop := l.length ≤ 100000 ∧ ∀ x ∈ l, x.k.size ≤ 1000000
def itemOf (x : Lf) : It := ⟨x, hk x.k⟩
def itemsOf (l : List Lf) : List It := l.map itemOf
theorem bytes_below' (w : World) (s : ByteArray) : Below w.heap.size w (Lib.bytesWorld w 5 s) := bytes_below (Below.refl _ _) (Nat.le_refl _) 5 s
theorem below_tr {B : Nat} {a b c : World} (h : Below B a b) (h2 : Below b.heap.size b c) (hB : B ≤ b.heap.size) : Below B a c := h.trans (h2.mono hB)
set_option maxHeartbeats 2000000 in
theorem items4_calls (l : List Lf) (A : Option Addr) (c : Nat) (w : World) (hr : kL.C w A l.length l) (hc : l.length ≤ c) (hl : Small l) :
  Calls Tryz.prog 26 #[.slice A l.length c] w fun e w' => ∃ v, e = .returned v ∧ kI.R 64 w' w.heap.size (fun _ => True) v (itemsOf l) ∧ Below w.heap.size w w' := by
 have HS := Aside0.mk hr
 have HL := Aside0.mk hl.2
 have hl := hl.1
 clear hr
 go_enter Tryz.func26, Tryz.ntmps26
 go_wp2_with (first
  | (refine bs0_J (wa := w) rfl rfl rfl w.heap.size (Below.refl _ _) (Nat.le_refl _) ?_; intro v0 w0 hr0 hb0 hs0; have H0 := Aside0.mk (And.intro hr0 hb0); clear hr0 hb0 hs0))
 go_loopw [3, 4] (fun v i wr => ∃ n : Nat, i = .int .i64 (n : Int) ∧ n ≤ l.length ∧ Aside0 (kI.R 64 wr w.heap.size (fun _ => True) v (itemsOf (l.take n)) ∧ Below w.heap.size w wr)) (fun _ i _ => l.length - (intOf i).toNat)
 case atStart => exact ⟨0, rfl, by omega, H0⟩
 case round =>
  clear H0
  obtain ⟨n, rfl, hn, HR⟩ := hrel
  by_cases c5 : n < l.length
  ·have c5b : (n : Int) < (l.length : Int) := by omega
   obtain ⟨y, hy⟩ : ∃ y, y = l.getD n zL := ⟨_, rfl⟩
   obtain ⟨ad, eA, hat⟩ := at_flat HS.out zL (n : Int) (by omega) c5b
   subst eA
   rw [show ((n : Int).toNat) = n by omega, ← hy] at hat
   have c5c := eq_true c5b
   have c5d : ((0 : Int) ≤ (n : Int)) = True := eq_true (by omega)
   have HAT := Aside0.mk hat
   have hkey : y.k.size ≤ 1000000 := HL.out y (by rw [hy]; exact getD_mem' c5)
   clear hat
   have HY := Aside0.mk hy
   clear hy
   obtain ⟨s, hs⟩ : ∃ s, hk y.k = s := ⟨_, rfl⟩
   obtain ⟨z, hz⟩ : ∃ z, z = (⟨y, s⟩ : It) := ⟨_, rfl⟩
   have HZ := Aside0.mk (show itemOf y = z by rw [hz, itemOf, hs])
   go_wp2
   refine start_ (n := 16) (S := fun w' => Below wr.heap.size wr w') (ds := [12, 13, 14, 15]) #[false, false, false, false, false, false, false, false, false, false, false, false, false, false, false, false] (by kernel_rfl) rfl rfl (Below.refl _ _).drew (fun hHeld => ?_)
   refine pure_ (i := 0) (N := some 12) (v := ?_) (a' := ?_) #[true, false, false, false, false, false, false, false, false, false, false, false, false, false, false, false] rfl rfl (by kernel_rfl) (fun _ _ _ h => h) (Or.inl ⟨by rfl, ?_⟩) ?_ ?_
   rotate_left
   ·intro w'
    go_simp
    with_reducible rfl
   rotate_left
   ·simp only [Act.put, lZa, lZb, lZc, i64_w, i32_w]
    rfl
   refine pure_ (i := 1) (N := some 13) (v := ?_) (a' := ?_) #[true, true, false, false, false, false, false, false, false, false, false, false, false, false, false, false] rfl rfl (by kernel_rfl) (fun _ _ _ h => h) (Or.inl ⟨by rfl, ?_⟩) ?_ ?_
   rotate_left
   ·intro w'
    go_simp
    with_reducible rfl
   rotate_left
   ·simp only [Act.put, lZa, lZb, lZc, i64_w, i32_w]
    rfl
   refine pure_ (i := 2) (N := some 14) (v := ?_) (a' := ?_) #[true, true, true, false, false, false, false, false, false, false, false, false, false, false, false, false] rfl rfl (by kernel_rfl) (fun _ _ _ h => h) (Or.inl ⟨by rfl, ?_⟩) ?_ ?_
   rotate_left
   ·intro w'
    go_simp
    with_reducible rfl
   rotate_left
   ·simp only [Act.put, lZa, lZb, lZc, i64_w, i32_w]
    rfl
   refine pure_ (i := 3) (N := some 15) (v := ?_) (a' := ?_) #[true, true, true, true, false, false, false, false, false, false, false, false, false, false, false, false] rfl rfl (by kernel_rfl) (fun _ _ _ h => h) (Or.inl ⟨by rfl, ?_⟩) ?_ ?_
   rotate_left
   ·intro w'
    go_simp
    with_reducible rfl
   rotate_left
   ·simp only [Act.put, lZa, lZb, lZc, i64_w, i32_w]
    rfl
   refine take_ (i := 4) (N := some 16) (v := .agg (cL y)) (a' := ?_) #[true, true, true, true, true, false, false, false, false, false, false, false, false, false, false, false] rfl rfl (by kernel_rfl) (fun _ _ _ h => h) (Or.inl ⟨by rfl, fun w' hS => yield_load _ _ rfl _ rfl (le_L HAT.out (below_tr HR.out.2 hS HR.out.2.size) 0)⟩) hHeld ?_ ?_
   rotate_left
   ·simp only [Act.put, lZa, lZb, lZc, i64_w, i32_w]
    rfl
   refine pure_ (i := 5) (N := some 17) (v := ?_) (a' := ?_) #[true, true, true, true, true, true, false, false, false, false, false, false, false, false, false, false] rfl rfl (by kernel_rfl) (fun _ _ _ h => h) (Or.inl ⟨by rfl, ?_⟩) ?_ ?_
   rotate_left
   ·intro w'
    go_simp
    with_reducible rfl
   rotate_left
   ·simp only [Act.put, lZa, lZb, lZc, i64_w, i32_w]
    rfl
   refine pure_ (i := 6) (N := some 18) (v := ?_) (a' := ?_) #[true, true, true, true, true, true, true, false, false, false, false, false, false, false, false, false] rfl rfl (by kernel_rfl) (fun _ _ _ h => h) (Or.inl ⟨by rfl, ?_⟩) ?_ ?_
   rotate_left
   ·intro w'
    go_simp
    with_reducible rfl
   rotate_left
   ·simp only [Act.put, lZa, lZb, lZc, i64_w, i32_w]
    rfl
   refine pure_ (i := 7) (N := some 19) (v := ?_) (a' := ?_) #[true, true, true, true, true, true, true, true, false, false, false, false, false, false, false, false] rfl rfl (by kernel_rfl) (fun _ _ _ h => h) (Or.inl ⟨by rfl, ?_⟩) ?_ ?_
   rotate_left
   ·intro w'
    go_simp
    with_reducible rfl
   rotate_left
   ·simp only [Act.put, lZa, lZb, lZc, i64_w, i32_w]
    rfl
   refine pure_ (i := 8) (N := some 20) (v := ?_) (a' := ?_) #[true, true, true, true, true, true, true, true, true, false, false, false, false, false, false, false] rfl rfl (by kernel_rfl) (fun _ _ _ h => h) (Or.inl ⟨by rfl, ?_⟩) ?_ ?_
   rotate_left
   ·intro w'
    go_simp
    with_reducible rfl
   rotate_left
   ·simp only [Act.put, lZa, lZb, lZc, i64_w, i32_w]
    rfl
   refine take_ (i := 9) (N := some 21) (v := ?_) (a' := ?_) #[true, true, true, true, true, true, true, true, true, true, false, false, false, false, false, false] rfl rfl (by kernel_rfl) (fun _ _ _ h => h) (Or.inl ⟨by rfl, ?_⟩) hHeld ?_ ?_
   rotate_left
   ·intro w' hS
    have hx := ((below_tr HR.out.2 hS HR.out.2.size).cell (World.block_lt_of_cell? w _ (at_L0 HAT.out))).trans (at_L0 HAT.out)
    go_simp
    with_reducible rfl
   rotate_left
   ·simp only [Act.put, lZa, lZb, lZc, i64_w, i32_w]
    rfl
   refine one_ (i := 10) (N := some 22) #[true, true, true, true, true, true, true, true, true, true, true, false, false, false, false, false] rfl rfl (by kernel_rfl) (by decide) (fun K hK => ?_)
   refine value_ (by rfl) rfl (str_value _ rfl y.k rfl Tryz.underlying9 Tryz.underlying53 Tryz.underlying5) ?_
   refine hK.out _ _ (below_tr hHeld (bytes_below' _ _) hHeld.size) (fun hHeld => ?_)
   clear hK K
   refine norm_ (a' := ?_) ?_ ?_
   rotate_left
   ·show Act.put _ (some 22) _ = _
    simp only [Act.put, lZa, lZb, lZc, i64_w, i32_w]
    rfl
   refine one_ (i := 11) (N := some 23) #[true, true, true, true, true, true, true, true, true, true, true, true, false, false, false, false] rfl rfl (by kernel_rfl) (by decide) (fun K hK => ?_)
   refine goes_ Tryz.func27 (by kernel_rfl) rfl #[.slice (some ⟨wr.drew.heap.size, 0, none⟩) y.k.size (grownCap wr.drew y.k.size 0 5)] (by rfl) rfl rfl (by simp only [List.map_toArray, List.map_cons, List.map_nil]; rfl) ?_
   refine (sumK3_calls y.k hkey _).mono ?_
   rw [hs]
   rintro e w3 ⟨rfl, hb3⟩
   refine ⟨_, rfl, ?_⟩
   refine hK.out _ _ (below_tr hHeld hb3 hHeld.size) (fun hHeld => ?_)
   clear hK K
   refine norm_ (a' := ?_) ?_ ?_
   rotate_left
   ·show Act.put _ (some 23) _ = _
    simp only [Act.put, lZa, lZb, lZc, i64_w, i32_w]
    rfl
   refine tail_ 12 (by kernel_rfl) ?_
   simp only [List.toList_toArray, List.drop_succ_cons, List.drop_zero]
   have hw3 := below_tr HR.out.2 hHeld HR.out.2.size
   have hR3 := Kd.R_below HR.out.1 hHeld
   go_wp2_with (first
    | ((with_reducible refine gate_dst (N := 24) rfl ?_); go_loud (refine bld_J rfl (.tmp 16) (.tmp 23) rfl y s rfl rfl ?_); go_loud (rw [← hz]))
    | (refine bs1_J rfl (.tmp 24) rfl z rfl ?_)
    | (refine app_J (wa := w) rfl (.tmp 12) (.tmp 25) rfl u3 _ z rfl rfl w.heap.size hR3 hw3 hw3.size (by rw [itemsOf, List.length_map, List.length_take]; omega) ?_; intro v1 w1 hr1 hb1 hs1; have H1 := Aside0.mk (And.intro hr1 hb1); clear hr1 hb1 hs1))
   refine ⟨⟨n + 1, by simp, by omega, ⟨?_, H1.out.2⟩⟩, by simp [intOf]; omega⟩
   rw [take_succ' zL c5, itemsOf, List.map_append, ← HY.out]
   rw [← HZ.out] at H1
   exact H1.out.1
  ·obtain rfl : n = l.length := by omega
   go_wp2
   go_ret
   exact ⟨_, rfl, by have := HR.out.1; rwa [List.take_length] at this, HR.out.2⟩
def bitI (x : Sm) (n : Nat) : Int := bits BinOp.and IntKind.i64 (wrap64 (x.b[n / 8]?.getD 0 / 2 ^ (7 - n % 8))) 1
theorem and_one (v : Int) : bits BinOp.and IntKind.i64 v 1 = 0 ∨ bits BinOp.and IntKind.i64 v 1 = 1 := by
 show IntKind.i64.wrap ((BitVec.ofInt 64 v &&& BitVec.ofInt 64 1).toNat : Int) = 0 ∨ IntKind.i64.wrap ((BitVec.ofInt 64 v &&& BitVec.ofInt 64 1).toNat : Int) = 1
 have h : (BitVec.ofInt 64 v &&& BitVec.ofInt 64 1).toNat = 0 ∨ (BitVec.ofInt 64 v &&& BitVec.ofInt 64 1).toNat = 1 := by
  rw [BitVec.toNat_and, show (BitVec.ofInt 64 1).toNat = 1 from rfl, Nat.and_one_is_mod]
  omega
 rcases h with h | h <;> rw [h]
 ·left; rfl
 ·right; rfl
theorem bitI_01 (x : Sm) (n : Nat) : bitI x n = 0 ∨ bitI x n = 1 := and_one _
set_option maxHeartbeats 2000000 in
theorem bit4_calls (x : Sm) (n : Nat) (hn : n < 256) (w : World) :
  Calls Tryz.prog 29 #[.agg (cS x), .int .i64 n] w fun e w' => e = .returned (.int .i64 (bitI x n)) ∧ Below w.heap.size w w' := by
 obtain ⟨q, hq⟩ : ∃ q, q = n / 8 := ⟨_, rfl⟩
 obtain ⟨r, hr⟩ : ∃ r, r = n % 8 := ⟨_, rfl⟩
 have K1 : (n : Int) / 8 = (q : Int) := by omega
 have K2 : (n : Int) % 8 = (r : Int) := by omega
 have k1 : (q : Int) < 32 := by omega
 have k2 : (r : Int) < 8 := by omega
 have hc0 : (w.alloc (.cells (cS x) 30)).cell? ⟨w.heap.size, q, none⟩ = some (.int .u8 (x.b.getD q 0)) := cell_encI (h_new rfl) (by rw [x.h]; omega)
 have HQ := Aside0.mk (And.intro hq hr)
 clear hq hr
 go_enter Tryz.func29, Tryz.ntmps29
 go_wp2
 go_ret
 refine ⟨?_, below_alloc (Below.refl _ _) _⟩
 rw [bitI, ← HQ.out.1, ← HQ.out.2]
 rfl
set_option maxHeartbeats 2000000 in
theorem bitm_calls (x : Sm) (n : Nat) (hn : n < 256) (w : World) :
  Calls Tryz.prog 64 #[.agg (cS x), .int .i64 n] w fun e w' => e = .returned (.int .i64 (bitI x n)) ∧ Below w.heap.size w w' := by
 obtain ⟨q, hq⟩ : ∃ q, q = n / 8 := ⟨_, rfl⟩
 obtain ⟨r, hr⟩ : ∃ r, r = n % 8 := ⟨_, rfl⟩
 have K1 : (n : Int) / 8 = (q : Int) := by omega
 have K2 : (n : Int) % 8 = (r : Int) := by omega
 have k1 : (q : Int) < 32 := by omega
 have k2 : (r : Int) < 8 := by omega
 have hc0 : (w.alloc (.cells (cS x) 30)).cell? ⟨w.heap.size, q, none⟩ = some (.int .u8 (x.b.getD q 0)) := cell_encI (h_new rfl) (by rw [x.h]; omega)
 have HQ := Aside0.mk (And.intro hq hr)
 clear hq hr
 go_enter Tryz.func64, Tryz.ntmps64
 go_wp2
 go_ret
 refine ⟨?_, below_alloc (Below.refl _ _) _⟩
 rw [bitI, ← HQ.out.1, ← HQ.out.2]
 rfl
def halfOf (l : List It) (d : Nat) (b : Int) : List It := l.filter fun y => decide (bitI y.s d = b)
theorem halfOf_succ {l : List It} {n : Nat} (hn : n < l.length) (d : Nat) (b : Int) : halfOf (l.take (n + 1)) d b = halfOf (l.take n) d b ++ if bitI (l.getD n zI).s d = b then [l.getD n zI] else [] := by
 rw [halfOf, take_succ' zI hn, List.filter_append]
 congr 1
 generalize l.getD n zI = z
 by_cases h : bitI z.s d = b <;> simp [h]
theorem halfOf_len (l : List It) (d : Nat) (b : Int) : (halfOf l d b).length ≤ l.length := List.length_filter_le _ _
set_option maxHeartbeats 2000000 in
theorem half4_calls (l : List It) (d : Nat) (hd : d < 256) (b : Int) (A : Option Addr) (c : Nat) (w : World) (hr : kI.C w A l.length l) (hc : l.length ≤ c) (hl : l.length ≤ 100000) :
  Calls Tryz.prog 31 #[.slice A l.length c, .int .i64 d, .int .i64 b] w fun e w' => ∃ v, e = .returned v ∧ kI.R 64 w' w.heap.size (fun _ => True) v (halfOf l d b) ∧ Below w.heap.size w w' := by
 have HS := Aside0.mk hr
 clear hr
 go_enter Tryz.func31, Tryz.ntmps31
 go_wp2_with (first
  | (refine bs0_J (wa := w) rfl rfl rfl w.heap.size (Below.refl _ _) (Nat.le_refl _) ?_; intro v0 w0 hr0 hb0 hs0; have H0 := Aside0.mk (And.intro hr0 hb0); clear hr0 hb0 hs0))
 go_loopw [7, 8] (fun v i wr => ∃ n : Nat, i = .int .i64 (n : Int) ∧ n ≤ l.length ∧ Aside0 (kI.R 64 wr w.heap.size (fun _ => True) v (halfOf (l.take n) d b) ∧ Below w.heap.size w wr)) (fun _ i _ => l.length - (intOf i).toNat)
 case atStart => exact ⟨0, rfl, by omega, H0⟩
 case round =>
  clear H0
  obtain ⟨n, rfl, hn, HR⟩ := hrel
  by_cases c5 : n < l.length
  ·have c5b : (n : Int) < (l.length : Int) := by omega
   obtain ⟨y, hy⟩ : ∃ y, y = l.getD n zI := ⟨_, rfl⟩
   obtain ⟨ad, eA, hat⟩ := at_flat HS.out zI (n : Int) (by omega) c5b
   subst eA
   rw [show ((n : Int).toNat) = n by omega, ← hy] at hat
   have c5c := eq_true c5b
   have c5d : ((0 : Int) ≤ (n : Int)) = True := eq_true (by omega)
   have HAT := Aside0.mk hat
   have hl1 := le_S (at_I1 hat) HR.out.2
   clear hat
   have HY := Aside0.mk hy
   clear hy
   have hsucc := Aside0.mk (halfOf_succ c5 d b)
   rw [← HY.out] at hsucc
   obtain ⟨β, hβ⟩ : ∃ β, bitI y.s d = β := ⟨_, rfl⟩
   by_cases hq : β = b
   ·go_wp2_with (first
     | (refine wpList_loadv rfl _ _ rfl _ rfl _ (hl1 0) ?_)
     | (go_at_call 29; (refine (bit4_calls y.s d hd _).mono ?_); rw [hβ]; rintro e w1 ⟨rfl, hb1⟩; have hl2 := le_J HAT.out (below_tr HR.out.2 hb1 HR.out.2.size); have H2 := Aside0.mk (And.intro (Kd.R_below HR.out.1 hb1) (below_tr HR.out.2 hb1 HR.out.2.size)); clear hb1 hl1)
     | (refine wpList_loadv rfl _ _ rfl _ rfl _ (hl2 0) ?_)
     | (refine bs1_J rfl (.tmp 29) rfl y rfl ?_)
     | (refine app_J (wa := w) rfl (.tmp 25) (.tmp 30) rfl u7 _ y rfl rfl w.heap.size H2.out.1 H2.out.2 H2.out.2.size (by have := halfOf_len (l.take n) d b; rw [List.length_take] at this; omega) ?_; intro v1 w1 hr1 hb1 hs1; have H1 := Aside0.mk (And.intro hr1 hb1); clear hr1 hb1 hs1))
    refine ⟨⟨n + 1, by simp, by omega, ⟨?_, H1.out.2⟩⟩, by simp [intOf]; omega⟩
    rw [hsucc.out, hβ, if_pos hq]
    exact H1.out.1
   ·go_wp2_with (first
     | (refine wpList_loadv rfl _ _ rfl _ rfl _ (hl1 0) ?_)
     | (go_at_call 29; (refine (bit4_calls y.s d hd _).mono ?_); rw [hβ]; rintro e w1 ⟨rfl, hb1⟩; have H2 := Aside0.mk (And.intro (Kd.R_below HR.out.1 hb1) (below_tr HR.out.2 hb1 HR.out.2.size)); clear hb1 hl1))
    refine ⟨⟨n + 1, by simp, by omega, ⟨?_, H2.out.2⟩⟩, by simp [intOf]; omega⟩
    rw [hsucc.out, hβ, if_neg hq, List.append_nil]
    exact H2.out.1
  ·obtain rfl : n = l.length := by omega
   go_wp2
   go_ret
   exact ⟨_, rfl, by have := HR.out.1; rwa [List.take_length] at this, HR.out.2⟩
def endsOf (l : List It) (d : Nat) : Bool := decide (l.length ≤ 1) || decide (256 ≤ d)
theorem ends4_calls (l : List It) (d : Nat) (hd : d ≤ 256) (A : Option Addr) (c : Nat) (w : World) :
  Calls Tryz.prog 28 #[.slice A l.length c, .int .i64 d] w fun e w' => e = .returned (.bool (endsOf l d)) ∧ w' = w := by
 have K1 : (256 : Int) ≤ (d : Int) ↔ 256 ≤ d := by omega
 have K2 : (l.length : Int) ≤ 1 ↔ l.length ≤ 1 := by omega
 go_enter Tryz.func28, Tryz.ntmps28
 by_cases h1 : l.length ≤ 1
 ·have h1b : (l.length : Int) ≤ 1 := by omega
  go_wp2
  go_ret
  exact ⟨by simp [endsOf, h1], rfl⟩
 ·have h1b : ¬ (l.length : Int) ≤ 1 := by omega
  go_wp2
  go_ret
  exact ⟨by simp [endsOf, h1, K1], rfl⟩
theorem endsm_calls (l : List It) (d : Nat) (hd : d ≤ 256) (A : Option Addr) (c : Nat) (w : World) :
  Calls Tryz.prog 52 #[.slice A l.length c, .int .i64 d] w fun e w' => e = .returned (.bool (endsOf l d)) ∧ w' = w := by
 have K1 : (d : Int) = 256 ↔ 256 ≤ d := by omega
 have K2 : (l.length : Int) ≤ 1 ↔ l.length ≤ 1 := by omega
 go_enter Tryz.func52, Tryz.ntmps52
 by_cases h1 : l.length ≤ 1
 ·have h1b : (l.length : Int) ≤ 1 := by omega
  go_wp2
  go_ret
  exact ⟨by simp [endsOf, h1], rfl⟩
 ·have h1b : ¬ (l.length : Int) ≤ 1 := by omega
  go_wp2
  go_ret
  exact ⟨by
    simp only [endsOf, h1, decide_false, Bool.false_or]
    by_cases hq : 256 ≤ d
    ·have := K1.2 hq; simp [hq, this]
    ·have hn : ¬ (d : Int) = 256 := fun e => hq (K1.1 e)
     simp [hq, hn], rfl⟩
end Go.Proofs.YtanabbjakacgbaaGreatDoor.Sp
namespace Go.Proofs.YtanabbjakacgbaaGreatDoor.Sp
open Go.RowKit Go.Proofs.YtanabbjakacgbaaGreatDoorW.PrintWords Go.Proofs.YtanabbjakacgbaaGreatDoorW.PrintLast Go.Proofs.YtanabbjakacgbaaGreatDoorW.PrintMore Go.Proofs.YtanabbjakacgbaaGreatDoor.PM
set_option linter.unusedVariables false
set_option linter.unusedSimpArgs false
set_option maxRecDepth 100000
theorem toList_inj {a b : ByteArray} : a.toList = b.toList ↔ a = b := by
 constructor
 ·intro e
  have h2 : a.data = b.data := by
   have := congrArg (fun l : List UInt8 => (⟨l.toArray⟩ : ByteArray)) e
   simpa [ByteArray.toList_eq] using this
  exact ByteArray.ext h2
 ·intro e; rw [e]
def dropOf (l : List Lf) (k : ByteArray) : List Lf := l.filter fun y => decide (¬ y.k = k)
theorem dropOf_succ {l : List Lf} {n : Nat} (hn : n < l.length) (k : ByteArray) : dropOf (l.take (n + 1)) k = dropOf (l.take n) k ++ if (l.getD n zL).k = k then [] else [l.getD n zL] := by
 rw [dropOf, take_succ' zL hn, List.filter_append]
 congr 1
 generalize l.getD n zL = z
 by_cases h : z.k = k <;> simp [h]
theorem dropOf_len (l : List Lf) (k : ByteArray) : (dropOf l k).length ≤ l.length := List.length_filter_le _ _
set_option maxHeartbeats 2000000 in
theorem drop4_calls (l : List Lf) (k : ByteArray) (A : Option Addr) (c : Nat) (w : World) (hr : kL.C w A l.length l) (hc : l.length ≤ c) (hl : l.length ≤ 100000) :
  Calls Tryz.prog 22 #[.slice A l.length c, .string k] w fun e w' => ∃ v, e = .returned v ∧ kL.R 32 w' w.heap.size (fun _ => True) v (dropOf l k) ∧ Below w.heap.size w w' := by
 have HS := Aside0.mk hr
 clear hr
 go_enter Tryz.func22, Tryz.ntmps22
 go_wp2_with (first
  | (refine bs0_L (wa := w) rfl rfl rfl w.heap.size (Below.refl _ _) (Nat.le_refl _) ?_; intro v0 w0 hr0 hb0 hs0; have H0 := Aside0.mk (And.intro hr0 hb0); clear hr0 hb0 hs0))
 go_loopw [5, 6] (fun v i wr => ∃ n : Nat, i = .int .i64 (n : Int) ∧ n ≤ l.length ∧ Aside0 (kL.R 32 wr w.heap.size (fun _ => True) v (dropOf (l.take n) k) ∧ Below w.heap.size w wr)) (fun _ i _ => l.length - (intOf i).toNat)
 case atStart => exact ⟨0, rfl, by omega, H0⟩
 case round =>
  clear H0
  obtain ⟨n, rfl, hn, HR⟩ := hrel
  by_cases c5 : n < l.length
  ·have c5b : (n : Int) < (l.length : Int) := by omega
   obtain ⟨y, hy⟩ : ∃ y, y = l.getD n zL := ⟨_, rfl⟩
   obtain ⟨ad, eA, hat⟩ := at_flat HS.out zL (n : Int) (by omega) c5b
   subst eA
   rw [show ((n : Int).toNat) = n by omega, ← hy] at hat
   have c5c := eq_true c5b
   have c5d : ((0 : Int) ≤ (n : Int)) = True := eq_true (by omega)
   have hx := (HR.out.2.cell (World.block_lt_of_cell? w _ (at_L0 hat))).trans (at_L0 hat)
   have hl1 := le_L hat HR.out.2
   clear hat
   have HY := Aside0.mk hy
   clear hy
   have hsucc := Aside0.mk (dropOf_succ c5 k)
   rw [← HY.out] at hsucc
   by_cases hq : y.k.toList = k.toList
   ·have hqb : (y.k.toList == k.toList) = true := by simp [hq]
    go_wp2
    refine ⟨⟨n + 1, by simp, by omega, ⟨?_, HR.out.2⟩⟩, by simp [intOf]; omega⟩
    rw [hsucc.out, if_pos (toList_inj.1 hq), List.append_nil]
    exact HR.out.1
   ·have hqb : (y.k.toList == k.toList) = false := by simp [hq]
    go_wp2_with (first
     | (refine wpList_loadv rfl _ _ rfl _ rfl _ (hl1 0) ?_)
     | (refine bs1_L rfl (.tmp 25) rfl y rfl ?_)
     | (refine app_L (wa := w) rfl (.tmp 21) (.tmp 26) rfl u5 _ y rfl rfl w.heap.size HR.out.1 HR.out.2 HR.out.2.size (by have := dropOf_len (l.take n) k; rw [List.length_take] at this; omega) ?_; intro v1 w1 hr1 hb1 hs1; have H1 := Aside0.mk (And.intro hr1 hb1); clear hr1 hb1 hs1))
    refine ⟨⟨n + 1, by simp, by omega, ⟨?_, H1.out.2⟩⟩, by simp [intOf]; omega⟩
    rw [hsucc.out, if_neg (fun h => hq (toList_inj.2 h))]
    exact H1.out.1
  ·obtain rfl : n = l.length := by omega
   go_wp2
   go_ret
   exact ⟨_, rfl, by have := HR.out.1; rwa [List.take_length] at this, HR.out.2⟩
def blt (a b : ByteArray) : Bool := Op.bytesLess a.toList b.toList
theorem bl_tri : ∀ a b : List UInt8, (Op.bytesLess a b || a == b) = !Op.bytesLess b a
 | [], [] => rfl
 | [], _ :: _ => rfl
 | _ :: _, [] => rfl
 | x :: a, y :: b => by
  have ih := bl_tri a b
  rw [Op.bytesLess, Op.bytesLess, List.cons_beq_cons]
  by_cases h1 : x < y
  ·have h2 : ¬ y < x := fun h => absurd (UInt8.lt_trans h h1) (UInt8.lt_irrefl _)
   have h3 : ¬ y = x := fun h => by subst h; exact UInt8.lt_irrefl _ h1
   simp [h1, h2, h3]
  ·by_cases h2 : x = y
   ·subst h2
    simp [UInt8.lt_irrefl]
    exact ih
   ·have h3 : y < x := by
     rcases UInt8.lt_or_lt_of_ne h2 with h | h
     ·exact absurd h h1
     ·exact h
    simp [h1, h2, h3]
theorem run_leq_str {P : Program} (t : TypeId) (a b : ByteArray) (w : World) : (binOp .leq t (.string a) (.string b)).run P w = .ok (.bool (!blt b a)) w := by
 rw [blt, ← bl_tri]
 simp [binOp, Op.stringOp]
theorem run_geq_str {P : Program} (t : TypeId) (a b : ByteArray) (w : World) : (binOp .geq t (.string a) (.string b)).run P w = .ok (.bool (!blt a b)) w := by
 simp [binOp, Op.stringOp, blt]
def putStep (x : Lf) (s : List Lf × Bool) (y : Lf) : List Lf × Bool :=
 let t := if s.2 = false ∧ blt y.k x.k = false then (s.1 ++ [x], true) else s
 if y.k = x.k then t else (t.1 ++ [y], t.2)
def putGo (l : List Lf) (x : Lf) : List Lf × Bool := l.foldl (putStep x) ([], false)
def putOf (l : List Lf) (x : Lf) : List Lf := if (putGo l x).2 = true then (putGo l x).1 else (putGo l x).1 ++ [x]
theorem putGo_succ {l : List Lf} {n : Nat} (hn : n < l.length) (x : Lf) : putGo (l.take (n + 1)) x = putStep x (putGo (l.take n) x) (l.getD n zL) := by
 rw [putGo, take_succ' zL hn, List.foldl_append]
 rfl
theorem putStep_len (x : Lf) (s : List Lf × Bool) (y : Lf) : (putStep x s y).1.length ≤ s.1.length + 2 := by
 unfold putStep
 dsimp only
 split <;> split <;> simp
theorem foldl_len (x : Lf) : ∀ (l : List Lf) (s : List Lf × Bool), (l.foldl (putStep x) s).1.length ≤ s.1.length + 2 * l.length
 | [], s => by simp
 | y :: l, s => by
  rw [List.foldl_cons, List.length_cons]
  have := foldl_len x l (putStep x s y)
  have := putStep_len x s y
  omega
theorem putGo_len (l : List Lf) (x : Lf) : (putGo l x).1.length ≤ 2 * l.length := by
 have := foldl_len x l ([], false)
 simpa [putGo] using this
theorem cell_L0 {w : World} {g t : Nat} {x : Lf} {fr : Nat × Nat} (hg : w.heap[g]? = some (.cells (cL x) t fr)) : w.cell? ⟨g, 0, none⟩ = some (.string x.k) :=
 (cell_of_row w g 0 _ t fr hg).trans (by rw [cL, Array.getElem?_append_left (by simp)]; rfl)
set_option maxHeartbeats 4000000 in
theorem put4_calls (l : List Lf) (x : Lf) (A : Option Addr) (c : Nat) (w : World) (hr : kL.C w A l.length l) (hc : l.length ≤ c) (hl : l.length ≤ 100000) :
  Calls Tryz.prog 20 #[.slice A l.length c, .agg (cL x)] w fun e w' => ∃ v, e = .returned v ∧ kL.R 32 w' w.heap.size (fun _ => True) v (putOf l x) ∧ Below w.heap.size w w' := by
 obtain ⟨wa, hwa⟩ : ∃ wa, wa = w.alloc (.cells (cL x) 32) := ⟨_, rfl⟩
 have hba : Below w.heap.size w wa := by rw [hwa]; exact below_alloc (Below.refl _ _) _
 have hga : wa.heap[w.heap.size]? = some (.cells (cL x) 32 (0, 0)) := by rw [hwa]; exact h_new rfl
 have hgl : w.heap.size < wa.heap.size := (Array.getElem?_eq_some_iff.1 hga).1
 have HS := Aside0.mk (Kd.C_below hr (below_alloc (Below.refl _ _) (.cells (cL x) 32)))
 rw [← hwa] at HS
 have HA := Aside0.mk (⟨hba, hga, hgl⟩ : _ ∧ _ ∧ _)
 clear hr hba hga hgl
 have HWA := Aside0.mk hwa
 clear hwa
 go_enter Tryz.func20, Tryz.ntmps20
 go_wp2_with (first
  | (rw [← HWA.out]; refine bs0_L (wa := wa) rfl rfl rfl wa.heap.size (Below.refl _ _) (Nat.le_refl _) ?_; intro v0 w0 hr0 hb0 hs0; have H0 := Aside0.mk (And.intro hr0 hb0); clear hr0 hb0 hs0))
 go_loopw [5, 6, 7] (fun v dn i wr => ∃ n : Nat, i = .int .i64 (n : Int) ∧ n ≤ l.length ∧ dn = .bool (putGo (l.take n) x).2 ∧ Aside0 (kL.R 32 wr wa.heap.size (fun _ => True) v (putGo (l.take n) x).1 ∧ Below wa.heap.size wa wr)) (fun _ _ i _ => l.length - (intOf i).toNat)
 case atStart => exact ⟨0, rfl, by omega, rfl, H0⟩
 case round =>
  clear H0
  obtain ⟨n, rfl, hn, rfl, HR⟩ := hrel
  by_cases c5 : n < l.length
  ·have c5b : (n : Int) < (l.length : Int) := by omega
   obtain ⟨y, hy⟩ : ∃ y, y = l.getD n zL := ⟨_, rfl⟩
   obtain ⟨ad, eA, hat⟩ := at_flat HS.out zL (n : Int) (by omega) c5b
   subst eA
   rw [show ((n : Int).toNat) = n by omega, ← hy] at hat
   have c5c := eq_true c5b
   have c5d : ((0 : Int) ≤ (n : Int)) = True := eq_true (by omega)
   have HF : Aside0 (∀ W, Below wa.heap.size wa W → W.cell? ⟨w.heap.size, 0, none⟩ = some (.string x.k) ∧ (∀ m, (loadVar 32 ⟨w.heap.size, 0, none⟩).run Tryz.prog (W.drewN m) = .ok (.agg (cL x)) (W.drewN m)) ∧ W.cell? (ad.add (n * 33)) = some (.string y.k) ∧ (∀ m, (loadVar 32 (ad.add (n * 33))).run Tryz.prog (W.drewN m) = .ok (.agg (cL y)) (W.drewN m))) := ⟨fun W hB =>
    ⟨cell_L0 ((hB.block _ HA.out.2.2).trans HA.out.2.1), ld_L ((hB.block _ HA.out.2.2).trans HA.out.2.1), (hB.cell (World.block_lt_of_cell? wa _ (at_L0 hat))).trans (at_L0 hat), le_L hat hB⟩⟩
   clear hat
   have HY := Aside0.mk hy
   clear hy
   have hsucc := Aside0.mk (putGo_succ c5 x)
   rw [← HY.out] at hsucc
   have hlen := putGo_len (l.take n) x
   rw [List.length_take] at hlen
   obtain ⟨s, hs⟩ : ∃ s, putGo (l.take n) x = s := ⟨_, rfl⟩
   rw [hs] at HR hsucc hlen ⊢
   have HL := Aside0.mk hlen
   clear hlen
   obtain ⟨out, dn⟩ := s
   have HD := Aside0.mk hs
   clear hs
   obtain ⟨hcx, hlx, hcy, hly⟩ := HF.out wr HR.out.2
   have hlen2 : out.length ≤ 2 * min n l.length := HL.out
   cases dn with
   | true =>
    go_wp2
    go_quiet ((fail))
    clear hcx hlx hcy hly
    have H7 := Aside0.mk (And.intro (Kd.R_drewN HR.out.1 nq) (below_drewN HR.out.2 nq))
    generalize wr.drewN nq = w7 at H7 ⊢
    obtain ⟨hcx, hlx, hcy, hly⟩ := HF.out w7 H7.out.2
    by_cases hq : y.k.toList = x.k.toList
    ·have hqb : (y.k.toList == x.k.toList) = true := by simp [hq]
     have hyx : y.k = x.k := toList_inj.1 hq
     have hres := Aside0.mk (show putStep x (out, true) y = (out, true) by unfold putStep; simp [hyx])
     go_wp2
     go_quiet ((fail))
     clear hcx hlx hcy hly
     have H8 := Aside0.mk (And.intro (Kd.R_drewN H7.out.1 nq) (below_drewN H7.out.2 nq))
     generalize w7.drewN nq = wq at H8 ⊢
     go_wp2
     refine ⟨⟨n + 1, by simp, by omega, ?_, ⟨?_, H8.out.2⟩⟩, by simp [intOf]; omega⟩
     ·rw [hsucc.out, hres.out]
     ·rw [hsucc.out, hres.out]
      exact H8.out.1
    ·have hqb : (y.k.toList == x.k.toList) = false := by simp [hq]
     have hyx : ¬ y.k = x.k := fun h => hq (toList_inj.2 h)
     have hres := Aside0.mk (show putStep x (out, true) y = (out ++ [y], true) by unfold putStep; simp [hyx])
     go_wp2
     go_quiet ((fail))
     clear hcx hlx hcy hly
     have H8 := Aside0.mk (And.intro (Kd.R_drewN H7.out.1 nq) (below_drewN H7.out.2 nq))
     generalize w7.drewN nq = wq at H8 ⊢
     obtain ⟨hcx, hlx, hcy, hly⟩ := HF.out wq H8.out.2
     go_wp2_with (first
      | (refine wpList_loadv rfl _ _ rfl _ rfl _ (hly 0) ?_)
      | (refine bs1_L rfl (.tmp 43) rfl y rfl ?_)
      | (refine app_L (wa := wa) rfl (.tmp 39) (.tmp 44) rfl u5 _ y rfl rfl wa.heap.size H8.out.1 H8.out.2 H8.out.2.size (by omega) ?_; intro v9 w9 hr9 hb9 hs9; have H9 := Aside0.mk (And.intro hr9 hb9); clear hr9 hb9 hs9))
     refine ⟨⟨n + 1, by simp, by omega, ?_, ⟨?_, H9.out.2⟩⟩, by simp [intOf]; omega⟩
     ·rw [hsucc.out, hres.out]
     ·rw [hsucc.out, hres.out]
      exact H9.out.1
   | false =>
    by_cases hlt : Op.bytesLess y.k.toList x.k.toList = true
    ·have hlt2 : blt y.k x.k = true := hlt
     have hleq : ∀ w1, (binOp .leq 9 (.string x.k) (.string y.k)).run Tryz.prog w1 = .ok (.bool false) w1 := fun w1 => by rw [run_leq_str, show blt y.k x.k = true from hlt]; rfl
     go_wp2
     go_quiet ((fail))
     clear hcx hlx hcy hly
     have H7 := Aside0.mk (And.intro (Kd.R_drewN HR.out.1 nq) (below_drewN HR.out.2 nq))
     generalize wr.drewN nq = w7 at H7 ⊢
     obtain ⟨hcx, hlx, hcy, hly⟩ := HF.out w7 H7.out.2
     by_cases hq : y.k.toList = x.k.toList
     ·have hqb : (y.k.toList == x.k.toList) = true := by simp [hq]
      have hyx : y.k = x.k := toList_inj.1 hq
      have hres := Aside0.mk (show putStep x (out, false) y = (out, false) by unfold putStep; rw [hlt2]; simp [hyx])
      go_wp2
      go_quiet ((fail))
      clear hcx hlx hcy hly
      have H8 := Aside0.mk (And.intro (Kd.R_drewN H7.out.1 nq) (below_drewN H7.out.2 nq))
      generalize w7.drewN nq = wq at H8 ⊢
      go_wp2
      refine ⟨⟨n + 1, by simp, by omega, ?_, ⟨?_, H8.out.2⟩⟩, by simp [intOf]; omega⟩
      ·rw [hsucc.out, hres.out]
      ·rw [hsucc.out, hres.out]
       exact H8.out.1
     ·have hqb : (y.k.toList == x.k.toList) = false := by simp [hq]
      have hyx : ¬ y.k = x.k := fun h => hq (toList_inj.2 h)
      have hres := Aside0.mk (show putStep x (out, false) y = (out ++ [y], false) by unfold putStep; rw [hlt2]; simp [hyx])
      go_wp2
      go_quiet ((fail))
      clear hcx hlx hcy hly
      have H8 := Aside0.mk (And.intro (Kd.R_drewN H7.out.1 nq) (below_drewN H7.out.2 nq))
      generalize w7.drewN nq = wq at H8 ⊢
      obtain ⟨hcx, hlx, hcy, hly⟩ := HF.out wq H8.out.2
      go_wp2_with (first
       | (refine wpList_loadv rfl _ _ rfl _ rfl _ (hly 0) ?_)
       | (refine bs1_L rfl (.tmp 43) rfl y rfl ?_)
       | (refine app_L (wa := wa) rfl (.tmp 39) (.tmp 44) rfl u5 _ y rfl rfl wa.heap.size H8.out.1 H8.out.2 H8.out.2.size (by omega) ?_; intro v9 w9 hr9 hb9 hs9; have H9 := Aside0.mk (And.intro hr9 hb9); clear hr9 hb9 hs9))
      refine ⟨⟨n + 1, by simp, by omega, ?_, ⟨?_, H9.out.2⟩⟩, by simp [intOf]; omega⟩
      ·rw [hsucc.out, hres.out]
      ·rw [hsucc.out, hres.out]
       exact H9.out.1
    ·have hlt1 : Op.bytesLess y.k.toList x.k.toList = false := by simpa using hlt
     have hlt2 : blt y.k x.k = false := hlt1
     have hleq : ∀ w1, (binOp .leq 9 (.string x.k) (.string y.k)).run Tryz.prog w1 = .ok (.bool true) w1 := fun w1 => by rw [run_leq_str, show blt y.k x.k = false from hlt1]; rfl
     go_wp2
     go_quiet ((fail))
     clear hcx hlx hcy hly
     have H6 := Aside0.mk (And.intro (Kd.R_drewN HR.out.1 nq) (below_drewN HR.out.2 nq))
     generalize wr.drewN nq = w6 at H6 ⊢
     obtain ⟨hcx, hlx, hcy, hly⟩ := HF.out w6 H6.out.2
     go_wp2_with (first
      | (refine wpList_loadv rfl _ _ rfl _ rfl _ (hlx 0) ?_)
      | (refine bs1_L rfl (.tmp 28) rfl x rfl ?_)
      | (refine app_L (wa := wa) rfl (.tmp 27) (.tmp 29) rfl u5 _ x rfl rfl wa.heap.size H6.out.1 H6.out.2 H6.out.2.size (by omega) ?_; intro v7 w7 hr7 hb7 hs7; have H7 := Aside0.mk (And.intro hr7 hb7); clear hr7 hb7 hs7))
     clear hcx hlx hcy hly
     obtain ⟨hcx, hlx, hcy, hly⟩ := HF.out w7 H7.out.2
     by_cases hq : y.k.toList = x.k.toList
     ·have hqb : (y.k.toList == x.k.toList) = true := by simp [hq]
      have hyx : y.k = x.k := toList_inj.1 hq
      have hres := Aside0.mk (show putStep x (out, false) y = ((out ++ [x]), true) by unfold putStep; rw [hlt2]; simp [hyx])
      go_wp2
      go_quiet ((fail))
      clear hcx hlx hcy hly
      have H8 := Aside0.mk (And.intro (Kd.R_drewN H7.out.1 nq) (below_drewN H7.out.2 nq))
      generalize w7.drewN nq = wq at H8 ⊢
      go_wp2
      refine ⟨⟨n + 1, by simp, by omega, ?_, ⟨?_, H8.out.2⟩⟩, by simp [intOf]; omega⟩
      ·rw [hsucc.out, hres.out]
      ·rw [hsucc.out, hres.out]
       exact H8.out.1
     ·have hqb : (y.k.toList == x.k.toList) = false := by simp [hq]
      have hyx : ¬ y.k = x.k := fun h => hq (toList_inj.2 h)
      have hres := Aside0.mk (show putStep x (out, false) y = ((out ++ [x]) ++ [y], true) by unfold putStep; rw [hlt2]; simp [hyx])
      go_wp2
      go_quiet ((fail))
      clear hcx hlx hcy hly
      have H8 := Aside0.mk (And.intro (Kd.R_drewN H7.out.1 nq) (below_drewN H7.out.2 nq))
      generalize w7.drewN nq = wq at H8 ⊢
      obtain ⟨hcx, hlx, hcy, hly⟩ := HF.out wq H8.out.2
      go_wp2_with (first
       | (refine wpList_loadv rfl _ _ rfl _ rfl _ (hly 0) ?_)
       | (refine bs1_L rfl (.tmp 43) rfl y rfl ?_)
       | (refine app_L (wa := wa) rfl (.tmp 39) (.tmp 44) rfl v7 _ y rfl rfl wa.heap.size H8.out.1 H8.out.2 H8.out.2.size (by rw [List.length_append, List.length_singleton]; omega) ?_; intro v9 w9 hr9 hb9 hs9; have H9 := Aside0.mk (And.intro hr9 hb9); clear hr9 hb9 hs9))
      refine ⟨⟨n + 1, by simp, by omega, ?_, ⟨?_, H9.out.2⟩⟩, by simp [intOf]; omega⟩
      ·rw [hsucc.out, hres.out]
      ·rw [hsucc.out, hres.out]
       exact H9.out.1
  ·obtain rfl : n = l.length := by omega
   rw [List.take_length] at HR ⊢
   have hlen := putGo_len l x
   have hpo : putOf l x = if (putGo l x).2 = true then (putGo l x).1 else (putGo l x).1 ++ [x] := rfl
   have HP := Aside0.mk hpo
   clear hpo
   obtain ⟨s, hs⟩ : ∃ s, putGo l x = s := ⟨_, rfl⟩
   rw [hs] at HR hlen HP ⊢
   obtain ⟨out, dn⟩ := s
   cases dn with
   | true =>
    go_wp2
    go_ret
    refine ⟨_, rfl, ?_, (HA.out.1).trans (HR.out.2.mono (Nat.le_of_lt HA.out.2.2))⟩
    rw [HP.out]
    simp only [if_true]
    exact Kd.R_lower HR.out.1 (Nat.le_of_lt HA.out.2.2)
   | false =>
    have hlen : out.length ≤ 2 * l.length := hlen
    have hlx := ld_L ((HR.out.2.block _ HA.out.2.2).trans HA.out.2.1)
    go_wp2_with (first
     | (refine wpList_loadv rfl _ _ rfl _ rfl _ (hlx 0) ?_)
     | (refine bs1_L rfl (.tmp 49) rfl x rfl ?_)
     | (refine app_L (wa := wa) rfl (.tmp 48) (.tmp 50) rfl u5 _ x rfl rfl wa.heap.size HR.out.1 HR.out.2 HR.out.2.size (by omega) ?_; intro v7 w7 hr7 hb7 hs7; have H7 := Aside0.mk (And.intro hr7 hb7); clear hr7 hb7 hs7))
    go_ret
    refine ⟨_, rfl, ?_, (HA.out.1).trans (H7.out.2.mono (Nat.le_of_lt HA.out.2.2))⟩
    rw [HP.out]
    simp only [Bool.false_eq_true, if_false]
    exact Kd.R_lower H7.out.1 (Nat.le_of_lt HA.out.2.2)
end Go.Proofs.YtanabbjakacgbaaGreatDoor.Sp
namespace Go.Proofs.YtanabbjakacgbaaGreatDoor.Sp
open Go.RowKit Go.Proofs.YtanabbjakacgbaaGreatDoorW.PrintWords Go.Proofs.YtanabbjakacgbaaGreatDoorW.PrintLast Go.Proofs.YtanabbjakacgbaaGreatDoorW.PrintMore Go.Proofs.YtanabbjakacgbaaGreatDoor.PM
set_option linter.unusedVariables false
set_option linter.unusedSimpArgs false
set_option maxRecDepth 100000
def validB (l : List Lf) : Bool := (List.range (l.length - 1)).all fun i => blt (l.getD i zL).k (l.getD (i + 1) zL).k
theorem validB_t {l : List Lf} (h : ∀ i, i + 1 < l.length → blt (l.getD i zL).k (l.getD (i + 1) zL).k = true) : validB l = true := by
 rw [validB, List.all_eq_true]
 intro i hi
 exact h i (by have := List.mem_range.1 hi; omega)
theorem validB_f {l : List Lf} (i : Nat) (hi : i + 1 < l.length) (h : blt (l.getD i zL).k (l.getD (i + 1) zL).k = false) : validB l = false := by
 rw [validB]
 by_cases hv : (List.range (l.length - 1)).all (fun i => blt (l.getD i zL).k (l.getD (i + 1) zL).k) = true
 ·have := List.all_eq_true.1 hv i (List.mem_range.2 (by omega))
  rw [h] at this
  exact absurd this (by simp)
 ·simpa using hv
theorem at_lf {w wr : World} {A : Option Addr} {l : List Lf} (HS : kL.C w A l.length l) (n : Nat) (hn : n < l.length) (hb : Below w.heap.size w wr) : ∃ ad, A = some ad ∧ wr.cell? (ad.add (n * 33)) = some (.string (l.getD n zL).k) ∧ (∀ m, (loadVar 32 (ad.add (n * 33))).run Tryz.prog (wr.drewN m) = .ok (.agg (cL (l.getD n zL))) (wr.drewN m)) := by
 obtain ⟨ad, eA, hat⟩ := at_flat HS zL (n : Int) (by omega) (by omega)
 subst eA
 rw [show ((n : Int).toNat) = n by omega] at hat
 exact ⟨ad, rfl, (hb.cell (World.block_lt_of_cell? w _ (at_L0 hat))).trans (at_L0 hat), le_L hat hb⟩
set_option maxHeartbeats 2000000 in
theorem valid4_calls (l : List Lf) (A : Option Addr) (c : Nat) (w : World) (hr : kL.C w A l.length l) (hc : l.length ≤ c) (hl : l.length ≤ 100000) :
  Calls Tryz.prog 24 #[.slice A l.length c] w fun e w' => e = .returned (.bool (validB l)) ∧ Below w.heap.size w w' := by
 have HS := Aside0.mk hr
 clear hr
 go_enter Tryz.func24, Tryz.ntmps24
 go_wp2
 go_loopw [3] (fun i wr => ∃ n : Nat, i = .int .i64 (n : Int) ∧ 1 ≤ n ∧ (n ≤ l.length ∨ n = 1) ∧ Aside0 (∀ i, i + 1 < n → blt (l.getD i zL).k (l.getD (i + 1) zL).k = true) ∧ Aside0 (Below w.heap.size w wr)) (fun i _ => l.length - (intOf i).toNat)
 case atStart => exact ⟨1, rfl, by omega, .inr rfl, ⟨fun i hi => by omega⟩, ⟨Below.refl _ _⟩⟩
 case round =>
  obtain ⟨n, rfl, hn1, hn, HV, HR⟩ := hrel
  by_cases c5 : n < l.length
  ·have c5b : (n : Int) < (l.length : Int) := by omega
   obtain ⟨p, hp⟩ : ∃ p, p = n - 1 := ⟨_, rfl⟩
   have hpn : p + 1 = n := by omega
   have K1 : (n : Int) - 1 = (p : Int) := by omega
   have hp' : p < l.length := by omega
   clear hp
   obtain ⟨ad, eA, hx, _⟩ := at_lf HS.out p hp' HR.out
   subst eA
   obtain ⟨ad2, eA2, hy, _⟩ := at_lf HS.out n c5 HR.out
   obtain rfl := Option.some.inj eA2
   clear eA2
   obtain ⟨a, ha⟩ : ∃ a, a = (l.getD p zL).k := ⟨_, rfl⟩
   obtain ⟨b, hb⟩ : ∃ b, b = (l.getD n zL).k := ⟨_, rfl⟩
   rw [← ha] at hx
   rw [← hb] at hy
   have c5c := eq_true c5b
   have c5d : ((0 : Int) ≤ (n : Int)) = True := eq_true (by omega)
   have c6c : ((p : Int) < (l.length : Int)) = True := eq_true (by omega)
   have c6d : ((0 : Int) ≤ (p : Int)) = True := eq_true (by omega)
   have HAB := Aside0.mk (And.intro ha hb)
   have HP := Aside0.mk hpn
   clear ha hb hpn
   by_cases hlt : blt a b = true
   ·have hgeq : ∀ w1, (binOp .geq 9 (.string a) (.string b)).run Tryz.prog w1 = .ok (.bool false) w1 := fun w1 => by rw [run_geq_str, hlt]; rfl
    go_wp2
    go_quiet ((fail))
    clear hx hy
    have HR2 := Aside0.mk (below_drewN HR.out nq)
    generalize wr.drewN nq = wq at HR2 ⊢
    go_wp2
    refine ⟨⟨n + 1, by simp, by omega, .inl (by omega), ⟨?_⟩, HR2⟩, by simp [intOf]; omega⟩
    intro i hi
    by_cases h : i = p
    ·subst h
     rw [← HAB.out.1, HP.out, ← HAB.out.2]
     exact hlt
    ·exact HV.out i (by have := HP.out; omega)
   ·have hlt2 : blt a b = false := by simpa using hlt
    have hgeq : ∀ w1, (binOp .geq 9 (.string a) (.string b)).run Tryz.prog w1 = .ok (.bool true) w1 := fun w1 => by rw [run_geq_str, hlt2]; rfl
    go_wp2
    go_quiet ((fail))
    clear hx hy
    have HR2 := Aside0.mk (below_drewN HR.out nq)
    generalize wr.drewN nq = wq at HR2 ⊢
    go_wp2
    go_ret
    exact ⟨by rw [validB_f p (by have := HP.out; omega) (by rw [← HAB.out.1, HP.out, ← HAB.out.2]; exact hlt2)]; rfl, HR2.out⟩
  ·have c5b : ¬ (n : Int) < (l.length : Int) := by omega
   go_wp2
   go_ret
   exact ⟨by rw [validB_t (fun i hi => HV.out i (by omega))]; rfl, HR.out⟩
set_option maxHeartbeats 2000000 in
theorem validm_calls (l : List Lf) (A : Option Addr) (c : Nat) (w : World) (hr : kL.C w A l.length l) (hc : l.length ≤ c) (hl : l.length ≤ 100000) :
  Calls Tryz.prog 23 #[.slice A l.length c] w fun e w' => e = .returned (.bool (validB l)) ∧ Below w.heap.size w w' := by
 have HS := Aside0.mk hr
 clear hr
 go_enter Tryz.func23, Tryz.ntmps23
 go_wp2
 go_loopw [7] (fun i wr => ∃ n : Nat, i = .int .i64 (n : Int) ∧ (n + 1 ≤ l.length ∨ n = 0) ∧ Aside0 (∀ i, i < n → blt (l.getD i zL).k (l.getD (i + 1) zL).k = true) ∧ Aside0 (Below w.heap.size w wr)) (fun i _ => l.length - (intOf i).toNat)
 case atStart => exact ⟨0, rfl, .inr rfl, ⟨fun i hi => by omega⟩, ⟨Below.refl _ _⟩⟩
 case round =>
  obtain ⟨n, rfl, hn, HV, HR⟩ := hrel
  by_cases c5 : n + 1 < l.length
  ·have c5b : (n : Int) < (l.length : Int) - 1 := by omega
   obtain ⟨p, hp⟩ : ∃ p, p = n + 1 := ⟨_, rfl⟩
   have K1 : (n : Int) + 1 = (p : Int) := by omega
   have hp' : p < l.length := by omega
   obtain ⟨ad, eA, hx, _⟩ := at_lf HS.out n (by omega) HR.out
   subst eA
   obtain ⟨ad2, eA2, hy, _⟩ := at_lf HS.out p hp' HR.out
   obtain rfl := Option.some.inj eA2
   clear eA2
   obtain ⟨a, ha⟩ : ∃ a, a = (l.getD n zL).k := ⟨_, rfl⟩
   obtain ⟨b, hb⟩ : ∃ b, b = (l.getD p zL).k := ⟨_, rfl⟩
   rw [← ha] at hx
   rw [← hb] at hy
   have c5c := eq_true c5b
   have c5d : ((0 : Int) ≤ (n : Int)) = True := eq_true (by omega)
   have c5e : ((n : Int) < (l.length : Int)) = True := eq_true (by omega)
   have c6c : ((p : Int) < (l.length : Int)) = True := eq_true (by omega)
   have c6d : ((0 : Int) ≤ (p : Int)) = True := eq_true (by omega)
   have HAB := Aside0.mk (And.intro ha hb)
   have HP := Aside0.mk hp
   clear ha hb hp
   by_cases hlt : blt a b = true
   ·have hgeq : ∀ w1, (binOp .geq 9 (.string a) (.string b)).run Tryz.prog w1 = .ok (.bool false) w1 := fun w1 => by rw [run_geq_str, hlt]; rfl
    go_wp2
    go_quiet ((fail))
    clear hx hy
    have HR2 := Aside0.mk (below_drewN HR.out nq)
    generalize wr.drewN nq = wq at HR2 ⊢
    go_wp2
    refine ⟨⟨n + 1, by simp [HP.out], .inl (by omega), ⟨?_⟩, HR2⟩, by simp [intOf]; omega⟩
    intro i hi
    by_cases h : i = n
    ·subst h
     rw [← HAB.out.1, ← HP.out, ← HAB.out.2]
     exact hlt
    ·exact HV.out i (by omega)
   ·have hlt2 : blt a b = false := by simpa using hlt
    have hgeq : ∀ w1, (binOp .geq 9 (.string a) (.string b)).run Tryz.prog w1 = .ok (.bool true) w1 := fun w1 => by rw [run_geq_str, hlt2]; rfl
    go_wp2
    go_quiet ((fail))
    clear hx hy
    have HR2 := Aside0.mk (below_drewN HR.out nq)
    generalize wr.drewN nq = wq at HR2 ⊢
    go_wp2
    go_ret
    exact ⟨by rw [validB_f n c5 (by rw [← HAB.out.1, ← HP.out, ← HAB.out.2]; exact hlt2)]; rfl, HR2.out⟩
  ·have c5b : ¬ (n : Int) < (l.length : Int) - 1 := by omega
   go_wp2
   go_ret
   exact ⟨by rw [validB_t (fun i hi => HV.out i (by omega))]; rfl, HR.out⟩
set_option maxHeartbeats 2000000 in
theorem same4_calls (l r : List Lf) (A : Option Addr) (c : Nat) (A2 : Option Addr) (c2 : Nat) (w : World) (hr : kL.C w A l.length l) (hc : l.length ≤ c) (hl : l.length ≤ 100000) (hr2 : kL.C w A2 r.length r) (hc2 : r.length ≤ c2) :
  Calls Tryz.prog 18 #[.slice A l.length c, .slice A2 r.length c2] w fun e w' => e = .returned (.bool (decide (l = r))) ∧ Below w.heap.size w w' := by
 have HS := Aside0.mk hr
 have HT := Aside0.mk hr2
 clear hr hr2
 go_enter Tryz.func18, Tryz.ntmps18
 by_cases hlen : l.length = r.length
 ·have hlb : ((l.length : Int) == (r.length : Int)) = true := by simp [hlen]
  have hlb2 : ((l.length : Int) != (r.length : Int)) = false := by simp [hlen]
  go_wp2
  go_loopw [5] (fun i wr => ∃ n : Nat, i = .int .i64 (n : Int) ∧ n ≤ l.length ∧ Aside0 (l.take n = r.take n) ∧ Aside0 (Below w.heap.size w wr)) (fun i _ => l.length - (intOf i).toNat)
  case atStart => exact ⟨0, rfl, by omega, ⟨rfl⟩, ⟨Below.refl _ _⟩⟩
  case round =>
   obtain ⟨n, rfl, hn, HV, HR⟩ := hrel
   by_cases c5 : n < l.length
   ·have c5b : (n : Int) < (l.length : Int) := by omega
    obtain ⟨ad, eA, _, hl1⟩ := at_lf HS.out n c5 HR.out
    subst eA
    obtain ⟨ad2, eA2, _, hl2⟩ := at_lf HT.out n (by omega) HR.out
    subst eA2
    obtain ⟨a, ha⟩ : ∃ a, a = l.getD n zL := ⟨_, rfl⟩
    obtain ⟨b, hb⟩ : ∃ b, b = r.getD n zL := ⟨_, rfl⟩
    rw [← ha] at hl1
    rw [← hb] at hl2
    have c5c := eq_true c5b
    have c5d : ((0 : Int) ≤ (n : Int)) = True := eq_true (by omega)
    have c6c : ((n : Int) < (r.length : Int)) = True := eq_true (by omega)
    have HAB := Aside0.mk (And.intro ha hb)
    clear ha hb
    go_wp2
    refine wp_region_quiet_lit (by kernel_rfl) (by kernel_rfl) ?_
    repeat (first
     | (refine wpQuiet_load (fun _ h => h) rfl _ _ rfl _ rfl _ (by first | exact hl1 | exact hl2) _ rfl ?_; simp only [Act.put, lZa, lZb, lZc])
     | (refine wpQuiet_eql rfl _ _ _ _ rfl _ _ rfl rfl gt_L _ (fun w => eqL w _ _) _ rfl ?_; simp only [Act.put, lZa, lZb, lZc])
     | (refine wpQuiet_neq rfl _ _ _ _ rfl _ _ rfl rfl gt_L _ (fun w => eqL w _ _) _ rfl ?_; simp only [Act.put, lZa, lZb, lZc])
     | (refine wpQuiet_eql rfl _ _ _ _ rfl _ _ rfl rfl gt_S _ (fun w => eqS w _ _) _ rfl ?_; simp only [Act.put, lZa, lZb, lZc])
     | (refine wpQuiet_neq rfl _ _ _ _ rfl _ _ rfl rfl gt_S _ (fun w => eqS w _ _) _ rfl ?_; simp only [Act.put, lZa, lZb, lZc])
     | (refine wpQuiet_eql rfl _ _ _ _ rfl _ _ rfl rfl gt_I _ (fun w => eqI w _ _) _ rfl ?_; simp only [Act.put, lZa, lZb, lZc])
     | (refine wpQuiet_neq rfl _ _ _ _ rfl _ _ rfl rfl gt_I _ (fun w => eqI w _ _) _ rfl ?_; simp only [Act.put, lZa, lZb, lZc])
     | (refine wpQuiet_field rfl _ _ _ rfl _ rfl _ (fun w => by first | exact fld_L0 w _ | exact fld_L1 w _ | exact fld_I0 w _ | exact fld_I1 w _ | exact fld_J0 w _ | exact fld_J1 w _) _ rfl ?_; simp only [Act.put, lZa, lZb, lZc])
     | (go_big_quiet_step (fail)))
    refine wpQuiet_nil ?_
    rintro _ ⟨nq, rfl⟩
    have HR2 := Aside0.mk (below_drewN HR.out nq)
    clear hl1 hl2
    generalize wr.drewN nq = wq at HR2 ⊢
    by_cases hab : a = b
    ·go_wp2
     ·rename_i h9
      exact absurd h9 (by simp [hab])
     refine ⟨⟨n + 1, by simp, by omega, ⟨?_⟩, HR2⟩, by simp [intOf]; omega⟩
     rw [take_succ' zL c5, take_succ' zL (by omega : n < r.length), HV.out, ← HAB.out.1, ← HAB.out.2, hab]
    ·have hne : ¬ l = r := fun e => hab (by rw [HAB.out.1, HAB.out.2, e])
     go_wp2
     ·go_ret
      exact ⟨by simp [hne], HR2.out⟩
     ·rename_i h9
      exact absurd h9 (by simp [hab])
   ·obtain rfl : n = l.length := by omega
    have he : l = r := by
     have h := HV.out
     rw [List.take_length, hlen, List.take_length] at h
     exact h
    go_wp2
    go_ret
    exact ⟨by simp [he], HR.out⟩
 ·have hne : ¬ l = r := fun e => hlen (by rw [e])
  have hlb : ¬ ((l.length : Int) = (r.length : Int)) := by omega
  go_wp2
  go_ret
  exact ⟨by simp [hne], Below.refl _ _⟩
end Go.Proofs.YtanabbjakacgbaaGreatDoor.Sp
namespace Go.Proofs.YtanabbjakacgbaaGreatDoor.Sp
open Go.RowKit Go.Proofs.YtanabbjakacgbaaGreatDoorW.PrintWords Go.Proofs.YtanabbjakacgbaaGreatDoorW.PrintLast Go.Proofs.YtanabbjakacgbaaGreatDoorW.PrintMore Go.Proofs.YtanabbjakacgbaaGreatDoor.PM
set_option linter.unusedVariables false
set_option linter.unusedSimpArgs false
set_option maxRecDepth 100000
section
variable {ops : Array Oper} {rest : List Oper} {o : Oper} {a : Act} {Q : Exit → Act → World → Prop} {w wa W : World}
theorem app_u8 (hg : o.guard = none) (s x : Operand) (ho : o.op = .call { callee := .builtin .append, args := #[s, x], argTypes := #[53, 53] }) (v : Value) (xs ys : List Int) (A2 : Option Addr) (c2 : Nat) (hs : a.eval s = v) (hx : a.eval x = .slice A2 ys.length c2) (B : Nat)
  (HO : (Kd.int .u8).R 5 W B (fun _ => True) v xs) (HC : (Kd.int .u8).C W A2 ys.length ys) (HB : Below B wa W) (hB : B ≤ W.heap.size) (hl : xs.length + ys.length ≤ 1000000000)
  (h : ∀ v1 w1, (Kd.int .u8).R 5 w1 B (fun _ => True) v1 (xs ++ ys) → Below B wa w1 → W.heap.size ≤ w1.heap.size → wpList Tryz.prog ops Q rest (a.put o.dst v1) w1) : wpList Tryz.prog ops Q (o :: rest) a W :=
 Kd.R_append_rows (Kd.int .u8) (w0 := wa) B hg s x 53 5 (.int .u8 0) 1 ho Tryz.underlying53 info5 rfl (by decide) (by omega) v xs ys A2 ys.length c2 (fun _ => True) (fun _ => False) hs hx HO HC (fun _ _ h => h) (fun _ h => h.elim) (fun _ _ => trivial) HB hB (by omega) (fun v1 w1 h1 h2 h3 _ => h v1 w1 h1 h2 h3.size)
theorem bs1_u8 (hg : o.guard = none) (x : Operand) (ho : o.op = .buildSlice 53 1 #[(0, x)]) (p : Int) (hx : a.eval x = .int .u8 p) {N : Tmp} (hN : o.dst = some N) (B : Nat) (HB : Below B wa W) (hB : B ≤ W.heap.size)
  (h : ∀ v1 w1, (Kd.int .u8).R 5 w1 B (fun _ => True) v1 [p] → Below B wa w1 → W.heap.size ≤ w1.heap.size → wpList Tryz.prog ops Q rest (a.put o.dst v1) w1) : wpList Tryz.prog ops Q (o :: rest) a W := by
 refine Kd.R_lit (Kd.int .u8) B 5 hg hN (xs := [p]) (inner := [.int .u8 p]) (ok := fun _ => True) (okp := fun _ => True) ?_ (Reps.one (show Kd.M (Kd.int .u8) _ _ _ p [.int .u8 p] from rfl) (Reps.none _ _)) (fun _ hk => hk) trivial HB hB (by simp) (fun v1 w1 h1 h2 h3 _ => h v1 w1 h1 h2 h3.size)
 obtain ⟨ie, hi, hzz⟩ := Option.map_eq_some_iff.1 info5
 simp only [Prod.mk.injEq] at hzz
 unfold execOp
 simp only [ho, Sem.run_bind]
 have e : (Array.map (fun x : Nat × Operand => (x.1, a.eval x.2)) #[(0, x)]) = #[(0, .int .u8 p)] := by simp [hx]
 have hf := run_buildSlice (P := Tryz.prog) W 53 5 1 #[(0, .int .u8 p)] #[.int .u8 p] ie (.int .u8 0) Tryz.underlying53 hi hzz.1 (by rw [hzz.2.1]; omega) (by rw [hzz.2.1]; omega) (by rw [hzz.2.1]; exact fill_one 0 (.int .u8 p) _ _ (by simp [Value.cells]) (by simp [Value.cells]))
 rw [e, hf]
 rfl
end
theorem eight_ok (n : Int) (w : World) : Calls Tryz.prog 97 #[.int .i64 n] w fun e w' => ∃ v, e = .returned v ∧ (Kd.int .u8).R 5 w' w.heap.size (fun _ => True) v (eightI n) ∧ Below w.heap.size w w' :=
 sponge_eight.calls 9 n (eightI n) w (eight_f n)
theorem ofBytes_take (acc : List Int) (ps : List (List Int)) {n : Nat} (hn : n < ps.length) : ofBytes acc (ps.take (n + 1)) = ofBytes acc (ps.take n) ++ eightI ((ps.getD n []).length : Int) ++ ps.getD n [] := by
 rw [take_succ' [] hn]
 generalize ps.getD n [] = p
 generalize ps.take n = l
 induction l generalizing acc with
 | nil => simp [ofBytes]
 | cons q l ih => rw [List.cons_append, ofBytes, ofBytes, ih]
theorem ofBytes_take_len (tag : Int) (ps : List (List Int)) (hf : Fit ps) (n : Nat) : (ofBytes [tag] (ps.take n)).length ≤ 1000000000 := by
 have h := ofBytes_fit tag (ps.take n) ⟨by have := hf.1; rw [List.length_take]; omega, fun p hp => hf.2 p (List.mem_of_mem_take hp)⟩
 exact h
set_option maxHeartbeats 4000000 in
theorem ofm_calls (tag : Int) (ht : 0 ≤ tag ∧ tag < 256) (ps : List (List Int)) (hf : Fit ps) (A : Option Addr) (c : Nat) (w : World) (hW : Words w) (hr : Kd.C (Kd.slice 5 (Kd.int .u8)) w A ps.length ps) (hc : ps.length ≤ c) :
  Calls Tryz.prog 79 #[.int .u8 tag, .slice A ps.length c] w fun e w' => e = .returned (.agg (cS (hof tag ps))) ∧ Below w.heap.size w w' := by
 have hu27 := Tryz.underlying30
 obtain ⟨wa, hwa⟩ : ∃ wa, wa = w.alloc (.cells (cS zS) 30) := ⟨_, rfl⟩
 have hba : Below w.heap.size w wa := by rw [hwa]; exact below_alloc (Below.refl _ _) _
 have hga : wa.heap[w.heap.size]? = some (.cells (cS zS) 30 (0, 0)) := by rw [hwa]; exact h_new rfl
 have hgl : w.heap.size < wa.heap.size := (Array.getElem?_eq_some_iff.1 hga).1
 have HS := Aside0.mk (Kd.C_below hr hba)
 have HA := Aside0.mk (⟨hba, hga, hgl⟩ : _ ∧ _ ∧ _)
 have HWD := Aside0.mk (hW.below hba)
 have HF := Aside0.mk hf
 clear hr hba hga hgl hW hf
 have HWA := Aside0.mk (show w.alloc (.cells #[.int .u8 0, .int .u8 0, .int .u8 0, .int .u8 0, .int .u8 0, .int .u8 0, .int .u8 0, .int .u8 0, .int .u8 0, .int .u8 0, .int .u8 0, .int .u8 0, .int .u8 0, .int .u8 0, .int .u8 0, .int .u8 0, .int .u8 0, .int .u8 0, .int .u8 0, .int .u8 0, .int .u8 0, .int .u8 0, .int .u8 0, .int .u8 0, .int .u8 0, .int .u8 0, .int .u8 0, .int .u8 0, .int .u8 0, .int .u8 0, .int .u8 0, .int .u8 0] 30) = wa by rw [hwa, zS_cells])
 clear hwa
 obtain ⟨T, hT⟩ : ∃ T, T = hof tag ps := ⟨_, rfl⟩
 rw [← hT]
 have HT := Aside0.mk hT
 clear hT
 have hn0 : ps.length ≤ 1000 := HF.out.1
 go_enter Tryz.func79, Tryz.ntmps79
 go_wp2_with (first
  | ((with_reducible refine gate_dst (N := 9) rfl ?_); rw [HWA.out]; refine bs1_u8 (wa := wa) rfl (.tmp 8) rfl tag rfl rfl wa.heap.size (Below.refl _ _) (Nat.le_refl _) ?_; intro v0 w0 hr0 hb0 hs0; have H0 := Aside0.mk (And.intro hr0 hb0); clear hr0 hb0 hs0))
 go_loopw [5, 12] (fun v i wr => ∃ n : Nat, i = .int .i64 (n : Int) ∧ n ≤ ps.length ∧ Aside0 ((Kd.int .u8).R 5 wr wa.heap.size (fun _ => True) v (ofBytes [tag] (ps.take n)) ∧ Below wa.heap.size wa wr)) (fun _ i _ => ps.length - (intOf i).toNat)
 case atStart => exact ⟨0, rfl, by omega, H0⟩
 case round =>
  clear H0
  obtain ⟨n, rfl, hn, HR⟩ := hrel
  by_cases c5 : n < ps.length
  ·have c5b : (n : Int) < (ps.length : Int) := by omega
   obtain ⟨ad, A1, c1, eA, hx, hl1, hi1⟩ := PM.at_L1 HS.out (n : Int) (by omega) c5b
   subst eA
   rw [show ((n : Int).toNat) = n by omega] at hx
   replace hx := (HR.out.2.cell (World.block_lt_of_cell? wa _ hx)).trans hx
   rw [show rd_L1 ps (n : Int) = ps.getD n [] from rfl] at hx hl1 hi1
   have hs1 := Aside0.mk (ofBytes_take [tag] ps c5)
   have hs2 := Aside0.mk (ofBytes_take_len tag ps HF.out (n + 1))
   obtain ⟨p, hp⟩ : ∃ p, p = ps.getD n [] := ⟨_, rfl⟩
   obtain ⟨out, hout⟩ : ∃ out, out = ofBytes [tag] (ps.take n) := ⟨_, rfl⟩
   rw [← hp] at hx hl1 hi1 hs1
   rw [← hout] at HR hs1
   rw [hs1.out] at hs2
   have HI := Aside0.mk hi1
   have hlen : out.length + 8 + p.length ≤ 1000000000 := by have := hs2.out; rw [List.length_append, List.length_append, eightI_len] at this; omega
   clear hi1
   have HP := Aside0.mk (And.intro hp hout)
   clear hp hout
   have c5c := eq_true c5b
   have c5d : ((0 : Int) ≤ (n : Int)) = True := eq_true (by omega)
   go_wp2_with (first
    | (go_at_call 97; (refine (eight_ok (p.length : Int) _).mono ?_); rintro e w1 ⟨v1, rfl, hv1, hb1⟩; obtain ⟨A8, c8, rfl, hc8, hr8⟩ := Kd.R_reads hv1; have H2 := Aside0.mk (⟨Kd.R_below HR.out.1 hb1, below_tr HR.out.2 hb1 HR.out.2.size, hr8, trivial⟩ : _ ∧ _ ∧ _ ∧ True); clear hv1 hb1 hr8)
    | ((with_reducible refine gate_dst (N := 20) rfl ?_); refine app_u8 (wa := wa) rfl (.tmp 16) (.tmp 19) rfl u5 out (eightI (p.length : Int)) A8 c8 rfl rfl wa.heap.size H2.out.1 H2.out.2.2.1 H2.out.2.1 H2.out.2.1.size (by rw [eightI_len]; omega) ?_; intro v3 w3 hr3 hb3 hs3; have H3 := Aside0.mk (⟨hr3, hb3⟩ : _ ∧ _); clear hr3 hb3 hs3)
    | ((with_reducible refine gate_dst (N := 23) rfl ?_); refine app_u8 (wa := wa) rfl (.tmp 21) (.tmp 22) rfl v3 (out ++ eightI (p.length : Int)) p A1 c1 rfl rfl wa.heap.size H3.out.1 (Kd.C_below HI.out H3.out.2) H3.out.2 H3.out.2.size (by rw [List.length_append, eightI_len]; omega) ?_; intro v4 w4 hr4 hb4 hs4; have H4 := Aside0.mk (⟨hr4, hb4⟩ : _ ∧ _); clear hr4 hb4 hs4))
   refine ⟨⟨n + 1, by simp, by omega, ⟨?_, H4.out.2⟩⟩, by simp [intOf]; omega⟩
   rw [hs1.out]
   exact H4.out.1
  ·obtain rfl : n = ps.length := by omega
   rw [List.take_length] at HR
   obtain ⟨out, hout⟩ : ∃ out, out = ofBytes [tag] ps := ⟨_, rfl⟩
   rw [← hout] at HR
   have HO := Aside0.mk (show H out = T by rw [HT.out, hout, hof])
   have HB := Aside0.mk (show (∀ b ∈ out, 0 ≤ b ∧ b < 256) ∧ out.length ≤ 1000000000 by rw [hout]; exact ⟨ofBytes_in tag ht ps HF.out, ofBytes_fit tag ps HF.out⟩)
   clear hout
   obtain ⟨A5, c5', rfl, hc5, hr5⟩ := Kd.R_reads HR.out.1
   have HV := Aside0.mk hr5
   have hga := (HR.out.2.block _ HA.out.2.2).trans HA.out.2.1
   have HG := Aside0.mk hga
   clear hr5 hga
   go_wp2_with (first
    | (go_at_call 62; (refine (sumH_calls out A5 c5' HB.out.1 hc5 HB.out.2 wr (HWD.out.below (HR.out.2.mono (Nat.le_refl _))) HV.out).mono ?_); rw [HO.out]; rintro e w1 ⟨rfl, hb1⟩; have H1 := Aside0.mk hb1; clear hb1)
    | ((with_reducible refine gate_store (t := 30) rfl ?_); (refine wpList_store_row rfl 30 (.tmp 4) (.tmp 26) rfl w.heap.size (cS T) rfl rfl 30 (cS zS) ((H1.out.block _ (Array.getElem?_eq_some_iff.1 HG.out).1).trans HG.out) ?g3 ?g4 (encI_one _) ?_); (case g3 => rw [cS_size]; kernel_rfl); (case g4 => rw [cS_size, cS_size])))
   have hg1 := (H1.out.block _ (Array.getElem?_eq_some_iff.1 HG.out).1).trans HG.out
   refine bodyPost_ret (v := .agg (cS T)) ?_ rfl ⟨rfl, below_setRow (HA.out.1.trans ((HR.out.2.trans (H1.out.mono HR.out.2.size)).mono (Nat.le_of_lt HA.out.2.2))) (Nat.le_refl _)⟩
   exact results_cell_row rfl _ _ w.heap.size 30 _ (0, 0) _ rfl (setRow_heap _ _ _ _ _ _ hg1) hu27 rfl (by rw [cS_size]; kernel_rfl)
end Go.Proofs.YtanabbjakacgbaaGreatDoor.Sp

