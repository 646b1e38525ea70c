/- Put together by this session's program out of: Opn Rng Rng2 Sp0 Sp1 Sp2 Sp3 Sp4 Rf0 Qt. -/
import Derived.BigQuiet
import Derived.BigRegion
import Derived.Carry
import Derived.ChangeOld
import Derived.Deep.Draws
import Derived.Deep.Quiet
import Derived.Deep.Slices
import Derived.Deep.WholeRow
import Derived.KernelRfl
import Derived.Laws.Bits64
import Derived.Laws.BitsLemmas
import Derived.Laws.CopyOwn
import Derived.Laws.Rows
import Derived.LoopIn
import Derived.LoopNIn
import Derived.OpenShut
import Derived.OwnWalkIn
import Derived.RangeFuncBound
import Derived.RangeFuncCalls
import Derived.RangeFuncLeaves
import Derived.RangeFuncNested
import Derived.RegionIn
import Derived.RowKit3
import Derived.SizedLaws
import Derived.StillTail
import Derived.StillTailTactics
import Derived.TacticsInMore
import Derived.WalkKit
import Derived.Test.YtanabbjakacgbaaGreatDoorV0
import Derived.Test.YtanabbjakacgbaaGreatDoorProg
namespace Go.Proofs.YtanabbjakacgbaaGreatDoor.Opn
open Go.RowKit Go.WideShapes Go.ChangeShapes Go.Deep Go.Proofs.YtanabbjakacgbaaGreatDoorW.PrintWords
structure Opn (P : Program) (t : TypeId) {α : Type} (d : Kd α) (F : α → Prop) : Prop where
 size : P.cellsOf t = d.sz
 get : ∀ {H : Type} {enc : TypeId × Value → H} {w : World} {base : Nat} {spare : Nat → Bool} {held : Bool} {fuel : Nat} {cs : List Value} {x : DataW H × List MemPlace},
  DataW.trod enc P w base spare held fuel t cs = some x → (∀ n ∈ x.1.weights P t, n ≤ reachBytes) → ∃ a : α, d.K w a cs ∧ F a
section
variable {P : Program} {t : TypeId}
theorem Opn.int {k : IntKind} (h : P.underlying t = some (.int k)) (hc : P.cellsOf t = 1) : Opn P t (Kd.int k) (fun n => (Lit.int k n).wf = true) :=
 ⟨hc, fun h1 _ => by
  obtain ⟨n, rfl, _, hw⟩ := DataW.trod_int h h1
  exact ⟨n, rfl, hw⟩⟩
theorem Opn.bool (h : P.underlying t = some .bool) (hc : P.cellsOf t = 1) : Opn P t Kd.bool (fun _ => True) :=
 ⟨hc, fun h1 _ => by
  obtain ⟨n, rfl, _⟩ := DataW.trod_bool h h1
  exact ⟨n, rfl, trivial⟩⟩
theorem Opn.string (h : P.underlying t = some .string) (hc : P.cellsOf t = 1) : Opn P t Kd.string (fun s => s.size ≤ 140737488351232) :=
 ⟨hc, fun h1 hz => by
  obtain ⟨s, rfl, rfl, _⟩ := DataW.trod_string h h1
  refine ⟨s, rfl, ?_⟩
  have := hz s.data.toList.length (by simp [DataW.weights])
  simpa [reachBytes] using this⟩
theorem weights_all {H : Type} {e : TypeId} : ∀ {l : List (DataW H)} {y : DataW H}, y ∈ l → ∀ n ∈ y.weights P e, n ∈ DataW.weightsAll P e l
 | d :: r, y, hy, n, hn => by
  simp only [DataW.weightsAll, List.mem_append]
  rcases List.mem_cons.1 hy with rfl | hy
  ·exact Or.inl hn
  ·exact Or.inr (weights_all hy n hn)
theorem Opn.slice {α : Type} {d : Kd α} {F : α → Prop} [Inhabited α] {e : TypeId} {B : Nat} (h : P.underlying t = some (.slice e)) (hc : P.cellsOf t = 1) (hB : P.bytesOf e = B) (o : Opn P e d F) :
  Opn P t (Kd.slice e d) (fun l => l.length ≤ maxLen ∧ l.length * B ≤ 140737488351232 ∧ ∀ x ∈ l, F x) := by
 refine ⟨hc, fun {H enc w base spare held fuel cs x} h1 hz => ?_⟩
 rcases open_slice h h1 with ⟨rfl, rfl⟩ | ⟨a, len, cap, m, n, D, Pl, rfl, hb, hl, hm, hmm, rfl, hx⟩
 ·exact ⟨[], ⟨none, 0, rfl, Nat.le_refl _, rfl, by simp, fun h0 => absurd h0 (Nat.lt_irrefl _)⟩, by simp [maxLen], by simp, fun _ hy => by cases hy⟩
 ·have hle : len ≤ m := by rw [hmm]; split <;> omega
  have key : ∀ i, i < len → ∃ y : α, ∃ cs', w.cells? base (a.add (i * P.cellsOf e)) (P.cellsOf e) = some cs' ∧ d.K w y cs' ∧ F y := by
   intro i hi
   obtain ⟨cs', h2, h3⟩ := hx i (by omega)
   obtain ⟨y, hy1, hy2⟩ := o.get h3 (fun q hq => hz q (by
    simp only [DataW.weights, h]
    refine List.mem_cons_of_mem _ (List.mem_append_left _ (weights_all (y := D i) ?_ q hq))
    exact List.mem_map.2 ⟨i, List.mem_range.2 hi, rfl⟩))
   exact ⟨y, cs', h2, hy1, hy2⟩
  obtain ⟨X, hX⟩ := choose_lt key
  have hlen : ((List.range len).map X).length = len := by simp
  have hbytes := hz ((((List.range len).map D).length + ((List.range (m - len)).map fun j => D (len + j)).length) * P.bytesOf e) (by simp only [DataW.weights, h]; exact List.mem_cons_self)
  rw [hB] at hbytes
  simp only [List.length_map, List.length_range, reachBytes] at hbytes
  have hmax : (9223372036854775807 : Nat) = maxLen := by decide +kernel
  refine ⟨(List.range len).map X, ⟨some a, cap, by rw [hlen], by rw [hlen]; exact hl, by rw [hlen], by rw [hlen]; have := hm; rw [← hmax] at this; omega, fun _ => ⟨a, rfl, fun j y hj => ?_⟩⟩, by rw [hlen]; omega, ?_, ?_⟩
  ·have hj' : j < len := by have := (List.getElem?_eq_some_iff.1 hj).1; rwa [hlen] at this
   have hy : X j = y := by simpa [List.getElem?_map, List.getElem?_range hj'] using hj
   subst hy
   obtain ⟨cs', h2, h3, _⟩ := hX j hj'
   obtain ⟨_, hcl, hcell⟩ := World.cells?_some h2
   refine ⟨cs', d.K_len h3, h3, fun i u hu => ?_⟩
   have hi : i < P.cellsOf e := by have := (List.getElem?_eq_some_iff.1 hu).1; rw [hcl] at this; exact this
   rw [← o.size, ← Go.Deep.add_add, hcell i hi]
   exact hu
  ·rw [hlen]; exact Nat.le_trans (Nat.mul_le_mul_right _ hle) (by rw [show m = len + (m - len) by omega]; exact hbytes)
  ·intro y hy
   obtain ⟨i, hi, rfl⟩ := List.mem_map.1 hy
   obtain ⟨_, _, _, h4⟩ := hX i (List.mem_range.1 hi)
   exact h4
structure OpnL (P : Program) (fs : List Field) (o : Nat) {α : Type} (d : Kd α) (F : α → Prop) : Prop where
 get : ∀ {H : Type} {enc : TypeId × Value → H} {w : World} {base : Nat} {spare : Nat → Bool} {held : Bool} {fuel : Nat} {cs : List Value} {xs : List (DataW H × List MemPlace)}, xs.length = fs.length →
  (∀ (i : Nat) (f : Field), fs[i]? = some f → DataW.trod enc P w base spare held fuel f.type ((cs.drop f.offset).take (P.cellsOf f.type)) = xs[i]?) →
  (∀ n ∈ DataW.weightsEach P (fs.map (·.type)) (xs.map (·.1)), n ≤ reachBytes) → ∃ a : α, d.K w a ((cs.drop o).take d.sz) ∧ F a
theorem OpnL.one {α : Type} {d : Kd α} {F : α → Prop} {f : Field} {o : Nat} (ho : f.offset = o) (h : Opn P f.type d F) : OpnL P [f] o d F := by
 refine ⟨fun {H enc w base spare held fuel cs xs} hl hx hz => ?_⟩
 match xs, hl with
 | [x], _ =>
  have h0 := hx 0 f rfl
  simp only [List.getElem?_cons_zero] at h0
  rw [h.size, ho] at h0
  exact h.get h0 (fun n hn => hz n (by simpa [DataW.weightsEach] using hn))
theorem OpnL.cons {α β : Type} {d : Kd α} {F : α → Prop} {d' : Kd β} {F' : β → Prop} {f : Field} {fs : List Field} {o : Nat} (ho : f.offset = o) (h : Opn P f.type d F) (h' : OpnL P fs (o + d.sz) d' F') :
  OpnL P (f :: fs) o (Kd.pair d d') (fun x => F x.1 ∧ F' x.2) := by
 refine ⟨fun {H enc w base spare held fuel cs xs} hl hx hz => ?_⟩
 match xs, hl with
 | x :: xs, hl =>
  have h0 := hx 0 f rfl
  simp only [List.getElem?_cons_zero] at h0
  rw [h.size, ho] at h0
  obtain ⟨a, ha, fa⟩ := h.get h0 (fun n hn => hz n (by simp only [List.map_cons, DataW.weightsEach]; exact List.mem_append_left _ hn))
  obtain ⟨b, hb, fb⟩ := h'.get (cs := cs) (xs := xs) (by simpa using hl) (fun i g hg => by simpa using hx (i + 1) g (by simpa using hg)) (fun n hn => hz n (by simp only [List.map_cons, DataW.weightsEach]; exact List.mem_append_right _ hn))
  refine ⟨(a, b), ⟨_, _, ?_, ha, hb⟩, fa, fb⟩
  show (cs.drop o).take (d.sz + d'.sz) = _
  rw [List.take_add, List.drop_drop]
theorem Opn.struct {α β : Type} {d : Kd α} {F : α → Prop} {fs : Array Field} (h : P.underlying t = some (.struct fs)) (o : OpnL P fs.toList 0 d F) (f : β → α) (g : α → β) (hfg : ∀ a, f (g a) = a) (hc : P.cellsOf t = d.sz) :
  Opn P t (Kd.iso d f) (fun x => F (f x)) := by
 refine ⟨hc, fun {H enc w base spare held fuel cs x} h1 hz => ?_⟩
 obtain ⟨xs, n, _, rfl, hl, hlen, hf⟩ := DataW.trod_struct h h1
 obtain ⟨a, ha, fa⟩ := o.get (cs := cs) (xs := xs) (by simpa using hlen) (fun i f' hf' => hf i f' (by simpa using hf')) (fun n hn => hz n (by simp only [DataW.weights, h]; exact hn))
 refine ⟨g a, ?_, by rw [hfg]; exact fa⟩
 show d.K w (f (g a)) cs
 rw [hfg]
 have : (cs.drop 0).take d.sz = cs := by rw [List.drop_zero, List.take_of_length_le (by omega)]
 rwa [this] at ha
structure OpnA (P : Program) (e : TypeId) (i n : Nat) {α : Type} (d : Kd α) (F : α → Prop) : Prop where
 get : ∀ {H : Type} {enc : TypeId × Value → H} {w : World} {base : Nat} {spare : Nat → Bool} {held : Bool} {fuel : Nat} {cs : List Value} {xs : List (DataW H × List MemPlace)}, xs.length = n →
  (∀ (j : Nat), i ≤ j → j < n → DataW.trod enc P w base spare held fuel e ((cs.drop (j * P.cellsOf e)).take (P.cellsOf e)) = xs[j]?) →
  (∀ q ∈ DataW.weightsAll P e (xs.map (·.1)), q ≤ reachBytes) → ∃ a : α, d.K w a ((cs.drop (i * P.cellsOf e)).take d.sz) ∧ F a
theorem OpnA.one {α : Type} {d : Kd α} {F : α → Prop} {e : TypeId} {i n : Nat} (hi : i < n) (h : Opn P e d F) : OpnA P e i n d F := by
 refine ⟨fun {H enc w base spare held fuel cs xs} hl hx hz => ?_⟩
 have h0 := hx i (Nat.le_refl _) hi
 rw [List.getElem?_eq_getElem (by omega)] at h0
 rw [h.size] at h0 ⊢
 exact h.get h0 (fun q hq => hz q (weights_all (y := (xs[i]'(by omega)).1) (List.mem_map.2 ⟨_, List.getElem_mem _, rfl⟩) q hq))
theorem OpnA.cons {α β : Type} {d : Kd α} {F : α → Prop} {d' : Kd β} {F' : β → Prop} {e : TypeId} {i n : Nat} (hi : i < n) (h : Opn P e d F) (h' : OpnA P e (i + 1) n d' F') : OpnA P e i n (Kd.pair d d') (fun x => F x.1 ∧ F' x.2) := by
 refine ⟨fun {H enc w base spare held fuel cs xs} hl hx hz => ?_⟩
 obtain ⟨a, ha, fa⟩ := (OpnA.one hi h).get (cs := cs) hl hx hz
 obtain ⟨b, hb, fb⟩ := h'.get (cs := cs) hl (fun j hj hjn => hx j (by omega) hjn) hz
 refine ⟨(a, b), ⟨_, _, ?_, ha, hb⟩, fa, fb⟩
 show (cs.drop (i * P.cellsOf e)).take (d.sz + d'.sz) = _
 rw [List.take_add, List.drop_drop, Nat.succ_mul, h.size]
theorem Opn.array {α β : Type} {d : Kd α} {F : α → Prop} {e : TypeId} {n : Nat} (h : P.underlying t = some (.array n e)) (o : OpnA P e 0 n d F) (f : β → α) (g : α → β) (hfg : ∀ a, f (g a) = a) (hc : P.cellsOf t = d.sz) :
  Opn P t (Kd.iso d f) (fun x => F (f x)) := by
 refine ⟨hc, fun {H enc w base spare held fuel cs x} h1 hz => ?_⟩
 obtain ⟨xs, m, _, rfl, hl, hlen, hf⟩ := DataW.trod_array h h1
 obtain ⟨a, ha, fa⟩ := o.get (cs := cs) (xs := xs) hlen (fun j _ hj => hf j hj) (fun q hq => hz q (by simp only [DataW.weights, h]; exact hq))
 refine ⟨g a, ?_, by rw [hfg]; exact fa⟩
 show d.K w (f (g a)) cs
 rw [hfg]
 have : (cs.drop (0 * P.cellsOf e)).take d.sz = cs := by rw [Nat.zero_mul, List.drop_zero, List.take_of_length_le (by omega)]
 rwa [this] at ha
theorem Opn.arg {α : Type} {d : Kd α} {F : α → Prop} (o : Opn P t d F) {H : Type} {enc : TypeId × Value → H} {w : World} {base : Nat} {spare : Nat → Bool} {held : Bool} {v : Value} {x : DataW H} {ps : List MemPlace} {ts : List TypeId} {ds : List (DataW H)} {j : Nat}
  (hz : (DataW.weightsEach P ts ds).all (· ≤ reachBytes) = true) (ht : ts[j]? = some t) (hd : ds[j]? = some x) (h : DataW.Trod enc P w base spare held t v x ps) : ∃ a : α, d.K w a v.cells.toList ∧ F a := by
 obtain ⟨fuel, hf⟩ := h
 exact o.get hf (fun n hn => by
  have := List.all_eq_true.1 hz _ (DataW.weights_mem_each ht hd n hn)
  simpa using this)
theorem okWide_array {r : Reach} {base : Nat} {w : World} {v : Value} {n : Nat} {e : TypeId} (ht : P.underlying t = some (.array n e)) (h : Value.okWide P w r base t v) : ∃ cs, v = .agg cs := by
 simp only [Value.okWide, ht] at h
 obtain ⟨cs, h1, _, _⟩ := h
 exact ⟨cs, h1⟩
end
end Go.Proofs.YtanabbjakacgbaaGreatDoor.Opn
namespace Go.Proofs.YtanabbjakacgbaaGreatDoor.Rng
open Go.RowKit
structure Turns (T : Nat → Prop) (W W' : World) : Prop where
 os : W'.os = W.os
 tape : W'.tape = W.tape
 output : W'.output = W.output
 size : W.heap.size ≤ W'.heap.size
 same : ∀ k, k < W.heap.size → ¬ T k → W'.heap[k]? = W.heap[k]?
section
variable {T T' : Nat → Prop} {A B C : World}
theorem Turns.refl (T : Nat → Prop) (W : World) : Turns T W W := ⟨rfl, rfl, rfl, Nat.le_refl _, fun _ _ _ => rfl⟩
theorem Turns.trans (h : Turns T A B) (k : Turns T B C) : Turns T A C :=
 ⟨k.os.trans h.os, k.tape.trans h.tape, k.output.trans h.output, Nat.le_trans h.size k.size, fun i hi ht => (k.same i (Nat.lt_of_lt_of_le hi h.size) ht).trans (h.same i hi ht)⟩
theorem Turns.mono (h : Turns T A B) (hT : ∀ k, T k → T' k) : Turns T' A B := ⟨h.os, h.tape, h.output, h.size, fun i hi ht => h.same i hi (fun hk => ht (hT i hk))⟩
theorem Turns.alloc (T : Nat → Prop) (W : World) (o : Obj) : Turns T W (W.alloc o) := ⟨rfl, rfl, rfl, by simp, fun k hk _ => Below.heap_alloc W o k hk⟩
theorem Turns.drew (T : Nat → Prop) (W : World) : Turns T W W.drew := ⟨rfl, rfl, rfl, Nat.le_refl _, fun _ _ _ => rfl⟩
theorem Turns.drewN (T : Nat → Prop) (W : World) (n : Nat) : Turns T W (W.drewN n) := ⟨rfl, rfl, rfl, Nat.le_refl _, fun _ _ _ => rfl⟩
theorem size_setCell (W : World) (p : Addr) (u : Value) : (W.setCell p u).heap.size = W.heap.size := by
 show (W.heap.modify _ _).size = _
 rw [Array.size_modify]
theorem Turns.setCell {p : Addr} (hp : T p.block) (W : World) (u : Value) : Turns T W (W.setCell p u) :=
 ⟨rfl, rfl, rfl, by rw [size_setCell]; exact Nat.le_refl _, fun k _ ht => Below.heap_setCell W p u k (fun e => ht (by rw [e]; exact hp))⟩
theorem Turns.putObj {l : Nat} (hl : T l) (W : World) (o : Obj) : Turns T W (W.putObj l o) :=
 ⟨rfl, rfl, rfl, by simp, fun k _ ht => World.putObj_heap_other (fun e => ht (by rw [e]; exact hl))⟩
theorem Turns.grown {row : Option Nat} (h : A.grownBy B row) (hr : ∀ k, row = some k → T k) : Turns T A B :=
 ⟨h.os, h.tape, h.output, h.size, fun k hk ht => h.block k hk (fun e => ht (hr k e.symm))⟩
theorem Turns.of_below {b : Nat} (h : Below b A B) (hb : A.heap.size ≤ b) : Turns T A B := ⟨h.os, h.tape, h.output, h.size, fun k hk _ => h.block k (Nat.lt_of_lt_of_le hk hb)⟩
theorem Turns.below {b : Nat} (h : Turns T A B) (hT : ∀ k, T k → b ≤ k) (hb : b ≤ A.heap.size) : Below b A B := ⟨h.os, h.tape, h.output, h.size, fun k hk => h.same k (Nat.lt_of_lt_of_le hk hb) (fun ht => by have := hT k ht; omega)⟩
theorem Turns.cell (h : Turns T A B) {p : Addr} (hp : p.block < A.heap.size) (ht : ¬ T p.block) : B.cell? p = A.cell? p := World.cell?_of_block (w := A) (h.same _ hp ht)
end
variable {F : Fence} {n : Nat} {P : Program}
def Gives (F : Fence) (n : Nat) (P : Program) (g : Nat) (lb : Array Value) {α : Type} (encs : α → Array Value) (S T : Nat → Prop) (xs : List α) (Post : World → Prop) (w : World) : Prop :=
 ∀ (l : Nat) (J : Nat → World → Prop) (W : World), (∀ k, S k → W.heap[k]? = w.heap[k]?) → w.heap.size ≤ W.heap.size →
  (∀ i A B, J i A → Turns T A B → J i B) →
  (∀ i x W1, xs[i]? = some x → J i W1 → YieldAt F (n - 1) P l (encs x) W1 fun e W' =>
   e = .returned (.bool true) ∧ J (i + 1) W' ∧ W1.heap.size ≤ W'.heap.size ∧ ∀ k, S k → W'.heap[k]? = W1.heap[k]?) →
  J 0 W → CallsIn F n P g (#[.func (.yield l) #[] #[]] ++ lb) W fun e W' => (∃ v, e = .returned v) ∧ J xs.length W' ∧ Post W'
theorem Gives.later {g : Nat} {lb : Array Value} {α : Type} {encs : α → Array Value} {S T : Nat → Prop} {xs : List α} {Post : World → Prop} {w w' : World}
  (h : Gives F n P g lb encs S T xs Post w) (hs : ∀ k, S k → w'.heap[k]? = w.heap[k]?) (hz : w.heap.size ≤ w'.heap.size) : Gives F n P g lb encs S T xs Post w' :=
 fun l J W hW hsz hJ hY h0 => h l J W (fun k hk => (hW k hk).trans (hs k hk)) (Nat.le_trans hz hsz) hJ hY h0
def Aside (T : Nat → Prop) (b : Nat) (A B : World) : Prop := Turns (fun k => T k ∨ (b ≤ k ∧ ∃ o, A.heap[k]? = some o ∧ o.isCells = false)) A B
theorem Aside.of_turns {T : Nat → Prop} {b : Nat} {A B : World} (h : Turns T A B) : Aside T b A B := h.mono (fun _ hk => .inl hk)
theorem Aside.putObj {T : Nat → Prop} {b l : Nat} {W : World} {o : Obj} (o' : Obj) (hl : W.heap[l]? = some o) (hb : b ≤ l) (ho : o.isCells = false) : Aside T b W (W.putObj l o') :=
 Turns.putObj (T := fun k => T k ∨ (b ≤ k ∧ ∃ o, W.heap[k]? = some o ∧ o.isCells = false)) (.inr ⟨hb, o, hl, ho⟩) W o'
end Go.Proofs.YtanabbjakacgbaaGreatDoor.Rng
namespace Go.Proofs.YtanabbjakacgbaaGreatDoor.Rng
open Go.RowKit
variable {F : Fence} {n : Nat} {P : Program}
def Gives2 (F : Fence) (n : Nat) (P : Program) (g : Nat) (lb : Array Value) {α : Type} (E : Nat → α → Array Value → World → Prop) (S : Nat → Obj → Prop) (T : Nat → Prop) (xs : List α) (Post : World → Prop) (w : World) : Prop :=
 ∀ (l : Nat) (J : Nat → World → Prop) (W : World), (∀ k o, w.heap[k]? = some o → S k o → W.heap[k]? = some o) → w.heap.size ≤ W.heap.size →
  (∀ i A B, J i A → Turns T A B → J i B) →
  (∀ i x vs W1, xs[i]? = some x → J i W1 → E i x vs W1 → YieldAt F (n - 1) P l vs W1 fun e W' =>
   e = .returned (.bool true) ∧ J (i + 1) W' ∧ W1.heap.size ≤ W'.heap.size ∧ ∀ k o, W1.heap[k]? = some o → S k o → W'.heap[k]? = some o) →
  J 0 W → CallsIn F n P g (#[.func (.yield l) #[] #[]] ++ lb) W fun e W' => (∃ v, e = .returned v) ∧ J xs.length W' ∧ Post W'
theorem rangeOver2 {g : Operand} {ps : Array Tmp} {assign body : Code} {Q : Exit → Act → World → Prop} {a : Act} {w : World}
  (hro : F.round = none) (h1 : 1 ≤ n) {gf : Nat} {lb : Array Value} (hg : a.eval g = .func (.func gf) #[] lb) (hFg : F.fn gf) (eg : ∀ args w, (callFunc gf args).run P w = .ok (.enter gf args) w)
  {α : Type} {E : Nat → α → Array Value → World → Prop} {S : Nat → Obj → Prop} {T : Nat → Prop} {xs : List α} {Post : World → Prop} (hseq : Gives2 F (n - 1) P gf lb E S T xs Post w)
  (hS : ∀ k o, S k o → o.isCells = true) (hT : ∀ k, T k → k < w.heap.size) (hps : ∀ i x vs W, E i x vs W → vs.size = ps.size)
  (I : Nat → World → Prop) (hI : ∀ i A B, I i A → Aside T w.heap.size A B → I i B) (h0 : I 0 w)
  (Ax : Nat → α → Act → World → Prop) (hAx : ∀ i x a' A B, Ax i x a' A → Aside T w.heap.size A B → Ax i x a' B)
  (hassign : ∀ (l i : Nat) (x : α) (vs : Array Value) (W : World) (K : Act → World → Prop), xs[i]? = some x → I i W → E i x vs W → w.heap.size ≤ W.heap.size →
   (∀ a' W', KeepsFrom w.heap.size W W' → (∀ k o, W.heap[k]? = some o → S k o → W'.heap[k]? = some o) → I i W' → Ax i x a' W' → K a' W') →
   assign.wpIn (F.inRound l) (n - 1 - 1) P (Exit.then K (fun _ _ _ => False)) { tmps := (ps.zip vs).foldl (fun t (p, v) => t.setIfInBounds p v) a.tmps, defers := [] } W)
  (hbody : ∀ (l i : Nat) (x : α) (a' : Act) (W : World), w.heap.size ≤ l → (∃ r, W.heap[l]? = some (.loop r)) → xs[i]? = some x → I i W → Ax i x a' W → w.heap.size ≤ W.heap.size →
   body.wpIn (F.inRound l) (n - 1 - 1) P (fun e _ W' => e = .normal ∧ KeepsFrom w.heap.size W W' ∧ (∀ k o, W.heap[k]? = some o → S k o → W'.heap[k]? = some o) ∧ I (i + 1) W') a' W)
  (hdone : ∀ (D : Nat) (W W' : World), w.heap.size ≤ D → Post W → Aside (fun _ => False) w.heap.size W W' → I xs.length W' → w.heap.size ≤ W'.heap.size → W'.heap[D]? = some (.deferred (some [])) → Q .normal { a with defers := { target := .collected D, args := #[] } :: a.defers } W') :
  (Code.rangeFunc g ps assign body).wpIn F n P Q a w := by
 refine wpIn_rangeFunc ?_
 intro fn hfn
 rw [hro]
 obtain ⟨rec, hrec⟩ : ∃ rec : LoopState → Option Code → Loop, rec = fun st pe => { state := st, pending := pe, fn, tmps := a.tmps, params := ps, assign, body, defers := w.heap.size } := ⟨_, rfl⟩
 obtain ⟨W1, hW1⟩ : ∃ W1, (w.alloc (.deferred (some []))).alloc (.loop (rec .ready none)) = W1 := ⟨_, rfl⟩
 have hL1 : W1.heap[w.heap.size + 1]? = some (.loop (rec .ready none)) := by
  rw [← hW1]; have := World.alloc_heap_new (w.alloc (.deferred (some []))) (.loop (rec .ready none)); rwa [World.size_alloc] at this
 have hK1 : W1.heap[w.heap.size]? = some (.deferred (some [])) := by
  rw [← hW1]; exact (Below.heap_alloc _ _ _ (by simp)).trans (World.alloc_heap_new w _)
 have hT1 : Turns (fun _ => False) w W1 := by rw [← hW1]; exact (Turns.alloc _ w _).trans (Turns.alloc _ _ _)
 have hI1 : I 0 W1 := hI 0 w W1 h0 (hT1.mono (fun _ h => h.elim))
 refine ⟨w.heap.size + 1, [{ target := .collected w.heap.size, args := #[] }], W1, { target := .fn (.func gf) lb, args := #[.func (.yield (w.heap.size + 1)) #[] #[]] }, W1, gf,
  #[.func (.yield (w.heap.size + 1)) #[] #[]] ++ lb, W1, ?_, ?_, ?_, ?_, fun _ => h1, ?_⟩
 ·rw [← hW1, hrec]; exact run_enterLoop_outer _ _ _ _ _
 ·simp only [resolve, hg]
  simp [go_sem]
 ·intro f' hf'; simp [Target.leads] at hf'; subst hf'; exact hFg
 ·simp [invoke, go_sem, eg]
 ·refine (hseq (w.heap.size + 1)
   (fun i W => I i W ∧ w.heap.size + 1 < W.heap.size ∧ W.heap[w.heap.size + 1]? = some (.loop (rec .ready none)) ∧ W.heap[w.heap.size]? = some (.deferred (some [])))
   W1 (fun k o hk ho => (hT1.same k (Array.getElem?_eq_some_iff.1 hk).1 (fun h => h)).trans hk) hT1.size ?_ ?_ ⟨hI1, (Array.getElem?_eq_some_iff.1 hL1).1, hL1, hK1⟩).mono ?_
  ·rintro i A B ⟨hi, hz, hl, hk⟩ ht
   exact ⟨hI i A B hi (Aside.of_turns ht), Nat.lt_of_lt_of_le hz ht.size, (ht.same _ hz (fun h => by have := hT _ h; omega)).trans hl, (ht.same _ (by omega) (fun h => by have := hT _ h; omega)).trans hk⟩
  ·
   rintro i x vs W hx ⟨hi, hz, hl, hk⟩ hE
   have hy := run_yield (P := P) (args := vs) hl (by rw [hrec]; exact hps _ _ _ _ hE)
   rw [hrec] at hy
   refine ⟨fn, _, assign, body, hy, roundIn_of_wpIn hfn (hassign _ i x vs W _ hx hi hE (by omega) ?_)⟩
   clear hy
   intro a' Wa hka hsa hia hax
   have hla := hka.same _ _ (by omega) hl rfl
   have hda := hka.same _ _ (Nat.le_refl _) hk rfl
   have hza : w.heap.size + 1 < Wa.heap.size := (Array.getElem?_eq_some_iff.1 hla).1
   refine ⟨_, run_beginRound hla (by rw [hrec]), ?_⟩
   have hl2 : (Wa.putObj (w.heap.size + 1) (.loop { rec .ready none with state := .busy })).heap[w.heap.size + 1]? = some (.loop { rec .ready none with state := .busy }) := World.putObj_heap_same hza
   have hd2 : (Wa.putObj (w.heap.size + 1) (.loop { rec .ready none with state := .busy })).heap[w.heap.size]? = some (.deferred (some [])) := (World.putObj_heap_other (by omega)).trans hda
   have hp2 : Aside T w.heap.size Wa (Wa.putObj (w.heap.size + 1) (.loop { rec .ready none with state := .busy })) := Aside.putObj _ hla (by omega) rfl
   refine wpIn_mono (hbody _ i x a' _ (by omega) ⟨_, hl2⟩ hx (hI _ _ _ hia hp2) (hAx _ _ _ _ _ hax hp2) (by simp; omega)) ?_
   rintro e a3 W3 ⟨rfl, hk3, hs3, hi3⟩
   have hl3 := hk3.same _ _ (by omega) hl2 rfl
   have hd3 := hk3.same _ _ (Nat.le_refl _) hd2 rfl
   have hz3 : w.heap.size + 1 < W3.heap.size := (Array.getElem?_eq_some_iff.1 hl3).1
   have hr := run_endRound (P := P) none hl3
   rw [hrec] at hr
   refine ⟨_, _, hr, rfl, ⟨hI _ _ _ hi3 (Aside.putObj _ hl3 (by omega) rfl), by simp; omega, ?_, (World.putObj_heap_other (by omega)).trans hd3⟩, ?_, ?_⟩
   ·rw [hrec]; exact World.putObj_heap_same hz3
   ·have h2 := hka.size; have h3 := hk3.size
    rw [World.putObj_size] at h3 ⊢; omega
   ·intro k o hk' hso
    have hc := hS k o hso
    have n1 : ∀ (W' : World) (o' : Obj), W'.heap[k]? = some o → W'.heap[w.heap.size + 1]? = some o' → o'.isCells = false → k ≠ w.heap.size + 1 := fun W' o' h1 h2 h3 e => by
     subst e
     rw [h1] at h2
     cases h2
     rw [hc] at h3
     cases h3
    have h1 := hsa k o hk' hso
    have h2 := (World.putObj_heap_other (o := .loop { rec .ready none with state := .busy }) (n1 Wa _ h1 hla rfl)).trans h1
    have h4 := hs3 k o h2 hso
    exact (World.putObj_heap_other (n1 W3 _ h4 hl3 rfl)).trans h4
  ·
   rintro e W2 ⟨⟨v, rfl⟩, ⟨hi, hz, hl, hk⟩, hP⟩
   refine ⟨none, _, by have := run_endLoop (P := P) hl (by rw [hrec]; simp); rw [hrec] at this; exact this, hdone _ W2 _ (Nat.le_refl _) hP (Aside.putObj _ hl (by omega) rfl) (hI _ _ _ hi (Aside.putObj _ hl (by omega) rfl)) (by simp; omega) ((World.putObj_heap_other (by omega)).trans hk)⟩
end Go.Proofs.YtanabbjakacgbaaGreatDoor.Rng
namespace Go.Proofs.YtanabbjakacgbaaGreatDoor.Sp
open Go.RowKit
set_option linter.unusedVariables false
set_option linter.unusedSimpArgs false
abbrev W := BitVec 64
def rotl (x : W) (n : Nat) : W := (x <<< n) ||| (x >>> (64 - n))
abbrev U (x : W) : Value := .int .u64 (x.toNat : Int)
theorem and63 (n : Nat) (h : n < 64) : bits .and .u64 ((n : Int)) 63 = (n : Int) := by
 have : ∀ m : Fin 64, bits .and .u64 (((m : Nat) : Int)) 63 = ((m : Nat) : Int) := by decide +kernel
 exact this ⟨n, h⟩
theorem ofInt_toNat (x : W) : BitVec.ofInt 64 (x.toNat : Int) = x := by
 apply BitVec.eq_of_toNat_eq
 rw [BitVec.ofInt_natCast, BitVec.toNat_ofNat]
 exact Nat.mod_eq_of_lt x.isLt
theorem wrap_nat (m : Nat) : IntKind.u64.wrap (m : Int) = ((m % 2 ^ 64 : Nat) : Int) := by rw [IntKind.wrap_u64]; omega
theorem bits_x (x y : W) : bits .xor .u64 (x.toNat : Int) (y.toNat : Int) = ((x ^^^ y).toNat : Int) := by
 show IntKind.u64.wrap ((BitVec.ofInt 64 (x.toNat : Int) ^^^ BitVec.ofInt 64 (y.toNat : Int)).toNat : Int) = _
 rw [ofInt_toNat, ofInt_toNat, wrap_nat]
 congr 1; exact Nat.mod_eq_of_lt (x ^^^ y).isLt
theorem bits_o (x y : W) : bits .or .u64 (x.toNat : Int) (y.toNat : Int) = ((x ||| y).toNat : Int) := by
 show IntKind.u64.wrap ((BitVec.ofInt 64 (x.toNat : Int) ||| BitVec.ofInt 64 (y.toNat : Int)).toNat : Int) = _
 rw [ofInt_toNat, ofInt_toNat, wrap_nat]
 congr 1; exact Nat.mod_eq_of_lt (x ||| y).isLt
theorem bits_a (x y : W) : bits .and .u64 (x.toNat : Int) (y.toNat : Int) = ((x &&& y).toNat : Int) := by
 show IntKind.u64.wrap ((BitVec.ofInt 64 (x.toNat : Int) &&& BitVec.ofInt 64 (y.toNat : Int)).toNat : Int) = _
 rw [ofInt_toNat, ofInt_toNat, wrap_nat]
 congr 1; exact Nat.mod_eq_of_lt (x &&& y).isLt
theorem shl_w (x : W) (n : Nat) : IntKind.u64.wrap ((x.toNat : Int) * 2 ^ n) = ((x <<< n).toNat : Int) := by
 rw [BitVec.toNat_shiftLeft, Nat.shiftLeft_eq, show ((x.toNat : Int) * 2 ^ n) = ((x.toNat * 2 ^ n : Nat) : Int) by simp, wrap_nat]
theorem shr_w (x : W) (n : Nat) : (x.toNat : Int) / 2 ^ n = ((x >>> n).toNat : Int) := by
 rw [BitVec.toNat_ushiftRight, Nat.shiftRight_eq_div_pow]; simp
theorem rot_calls (x : W) (n : Nat) (hn : n < 64) (w : World) :
  Calls Tryz.prog 98 #[U x, .int .i64 (n : Int)] w fun e w' => e = .returned (U (rotl x n)) ∧ w' = w := by
 have hu3 := Tryz.underlying3
 have hu120 := Tryz.underlying97
 have h63 := and63 n hn
 have h64 : (n : Int) ≤ 64 := by omega
 have h64' : 0 ≤ (64 : Int) - n := by omega
 have hw := eq_true h64'
 go_enter Tryz.func98, Tryz.ntmps98
 go_wp2
 go_ret
 refine ⟨?_, rfl⟩
 show Ending.returned (.int .u64 _) = _
 rw [shl_w, shr_w, bits_o]
 rfl
theorem rot1_calls (x : W) (w : World) :
  Calls Tryz.prog 98 #[U x, .int .i64 1] w fun e w' => e = .returned (U (rotl x 1)) ∧ w' = w := rot_calls x 1 (by decide) w
def enc (l : List W) : Array Value := (l.map U).toArray
def encN (l : List Nat) : Array Value := (l.map fun (n : Nat) => Value.int .i64 (n : Int)).toArray
theorem enc_size (l : List W) : (enc l).size = l.length := by simp [enc]
theorem encN_size (l : List Nat) : (encN l).size = l.length := by simp [encN]
theorem enc_get (l : List W) (i : Nat) (h : i < l.length) : (enc l)[i]? = some (U (l.getD i 0)) := by
 simp [enc, List.getElem?_map, List.getElem?_eq_getElem h, List.getD_eq_getElem?_getD]
theorem encN_get (l : List Nat) (i : Nat) (h : i < l.length) : (encN l)[i]? = some (.int .i64 ((l.getD i 0 : Nat) : Int)) := by
 simp [encN, List.getElem?_map, List.getElem?_eq_getElem h, List.getD_eq_getElem?_getD]
theorem enc_set (l : List W) (i : Nat) (x : W) : (enc l).setIfInBounds i (U x) = enc (l.set i x) := by
 simp [enc, List.map_set]
theorem encN_set (l : List Nat) (i : Nat) (x : Nat) : (encN l).setIfInBounds i (.int .i64 (x : Int)) = encN (l.set i x) := by
 simp [encN, List.map_set]
theorem heap_alloc_if (w : World) (o : Obj) (i : Nat) : (w.alloc o).heap[i]? = if i = w.heap.size then some o else w.heap[i]? := by
 show (w.heap.push o)[i]? = _
 rw [Array.getElem?_push]
theorem size_sc (W : World) (p : Addr) (u : Value) : (W.setCell p u).heap.size = W.heap.size := by
 show (W.heap.modify _ _).size = _
 rw [Array.size_modify]
theorem h_new {w : World} {o : Obj} {i : Nat} (h : i = w.heap.size) : (w.alloc o).heap[i]? = some o := by rw [heap_alloc_if, if_pos h]
theorem h_old {w : World} {o : Obj} {i : Nat} (h : i < w.heap.size) : (w.alloc o).heap[i]? = w.heap[i]? := by rw [heap_alloc_if, if_neg (Nat.ne_of_lt h)]
section
variable {w : World} {g i : Nat} {t : TypeId}
theorem cell_enc {l : List W} {fr : Nat × Nat} (hg : w.heap[g]? = some (.cells (enc l) t fr)) (h : i < l.length) : w.cell? ⟨g, i, none⟩ = some (U (l.getD i 0)) :=
 (cell_of_row w g i _ t fr hg).trans (enc_get l i h)
theorem cell_encN {l : List Nat} {fr : Nat × Nat} (hg : w.heap[g]? = some (.cells (encN l) t fr)) (h : i < l.length) : w.cell? ⟨g, i, none⟩ = some (.int .i64 ((l.getD i 0 : Nat) : Int)) :=
 (cell_of_row w g i _ t fr hg).trans (encN_get l i h)
theorem heap_set_enc {l : List W} (x : W) (hg : w.heap[g]? = some (.cells (enc l) t (0, 0))) : (w.setCell ⟨g, i, none⟩ (U x)).heap[g]? = some (.cells (enc (l.set i x)) t (0, 0)) := by
 rw [heap_setCell_same w g i _ t _ hg, enc_set]
theorem heap_set_encN {l : List Nat} (x : Nat) (hg : w.heap[g]? = some (.cells (encN l) t (0, 0))) : (w.setCell ⟨g, i, none⟩ (.int .i64 (x : Int))).heap[g]? = some (.cells (encN (l.set i x)) t (0, 0)) := by
 rw [heap_setCell_same w g i _ t _ hg, encN_set]
end
theorem index_cs {P : Program} {T E n : Nat} {k : IntKind} (hu : P.underlying T = some (.array n E)) (he : P.underlying E = some (.int k)) (hi : (P.info? E).map (·.size) = some 1) {cs : Array Value} {i : Nat} {v : Value} (h : i < n) (hc : cs[i]? = some v) (w : World) :
  (Instr.index T (.agg cs) (.int .i64 (i : Int))).run P w = .ok v w := by
 obtain ⟨j, hj⟩ : ∃ j, P.info? E = some j := by
  cases hq : P.info? E with
  | none => rw [hq] at hi; simp at hi
  | some j => exact ⟨j, rfl⟩
 have hs : j.size = 1 := by rw [hj] at hi; simpa using hi
 unfold Instr.index asIntOf
 simp only [Sem.run_bind, Sem.run_pure, Result.andThen_ok, run_underlying hu]
 rw [if_pos ⟨by omega, by omega⟩]
 simp [sizeOf, typeInfo, hj, hs, part, isAgg, run_underlying he, hc]
theorem not_w (q : W) : bits .xor .u64 (if IntKind.u64.signed = true then -1 else IntKind.u64.max) (q.toNat : Int) = ((~~~ q).toNat : Int) := by
 show bits .xor .u64 (((BitVec.allOnes 64).toNat : Nat) : Int) (q.toNat : Int) = _
 rw [bits_x, BitVec.allOnes_xor]
theorem enc_one (l : List W) : (enc l).all (·.oneCell') = true := by
 rw [Array.all_eq_true_iff_forall_mem]
 intro x hx
 simp only [enc, List.mem_toArray, List.mem_map] at hx
 obtain ⟨y, _, rfl⟩ := hx
 rfl
theorem encN_one (l : List Nat) : (encN l).all (·.oneCell') = true := by
 rw [Array.all_eq_true_iff_forall_mem]
 intro x hx
 simp only [encN, List.mem_toArray, List.mem_map] at hx
 obtain ⟨y, _, rfl⟩ := hx
 rfl
theorem below_setRow {w W : World} {g : Nat} {cs : Array Value} (h : Below w.heap.size w W) (hg : w.heap.size ≤ g) : Below w.heap.size w (W.setRow g cs) :=
 ⟨h.os, h.tape, h.output, by rw [setRow_size]; exact h.size, fun k hk => (setRow_other W g k cs (by omega)).trans (h.block k hk)⟩
theorem still_of_quiet {P : Program} {ops : Array Oper} {w : World} {Q : Act → Prop} : ∀ (l : List Oper) (a : Act), wpQuiet P ops (fun v => v = w) Q l a → wpStill P ops w Q l a
 | [], _, h => h
 | o :: l, a, h => by
  unfold wpQuiet at h
  unfold wpStill
  split
  ·rename_i hw
   rw [if_pos hw] at h
   obtain ⟨v, h1, h2⟩ := h
   have h3 := h1 w rfl
   unfold Oper.quietAt at h3
   unfold Oper.still
   have h2' := still_of_quiet l _ h2
   revert h3
   cases (execOp a.eval o).run P w with
   | ok nx w' =>
    cases nx with
    | value u => rintro ⟨rfl, rfl⟩; exact ⟨rfl, h2'⟩
    | skip => rintro ⟨rfl, rfl⟩; exact ⟨rfl, h2'⟩
    | enter f args => rintro ⟨rfl, hc⟩; exact ⟨rfl, v, hc, h2'⟩
    | _ => exact fun h => h.elim
   | _ => exact fun h => h.elim
  ·rename_i hw
   rw [if_neg hw] at h
   exact still_of_quiet l _ h
theorem region_qtail {P : Program} {id : Nat} {Q : Exit → Act → World → Prop} {a : Act} {w : World} {l : List Oper} (n : Nat) (hm : P.follows .mixedOrders = true) (hB : Region.lexTailB .any l.toArray n = true)
  (h : ∀ w1, w1 = w.drew → wpQuiet P l.toArray (fun v => v = w1) (fun a' => wpList P l.toArray Q (l.drop n) a' w1) (l.take n) a) : (Code.region id l.toArray true).wp P Q a w :=
 wp_region_still_tail n hm hB (still_of_quiet _ _ (h _ rfl))
end Go.Proofs.YtanabbjakacgbaaGreatDoor.Sp
namespace Go.Proofs.YtanabbjakacgbaaGreatDoor.Sp
open Go.RowKit Go.Proofs.YtanabbjakacgbaaGreatDoorW.PrintWords Go.Proofs.YtanabbjakacgbaaGreatDoorW.PrintLast Go.Proofs.YtanabbjakacgbaaGreatDoorW.PrintMore
set_option linter.unusedVariables false
set_option linter.unusedSimpArgs false
def c1 (a : List W) : Nat → List W
 | 0 => List.replicate 5 0
 | i + 1 => (c1 a i).set (i % 5) ((c1 a i).getD (i % 5) 0 ^^^ a.getD i 0)
def b1 (a c : List W) (t : List Nat) : Nat → List W
 | 0 => List.replicate 25 0
 | i + 1 => (b1 a c t i).set (i / 5 + 5 * ((2 * (i % 5) + 3 * (i / 5)) % 5)) (rotl (a.getD i 0 ^^^ (c.getD ((i % 5 + 4) % 5) 0 ^^^ rotl (c.getD ((i % 5 + 1) % 5) 0) 1)) (t.getD i 0))
def a1 (a b : List W) : Nat → List W
 | 0 => a
 | i + 1 => (a1 a b i).set i (b.getD i 0 ^^^ (~~~ b.getD (i / 5 * 5 + (i + 1) % 5) 0 &&& b.getD (i / 5 * 5 + (i + 2) % 5) 0))
def roundL (a : List W) (t : List Nat) (k : W) : List W :=
 let r := a1 a (b1 a (c1 a 25) t 25) 25
 r.set 0 (r.getD 0 0 ^^^ k)
theorem c1_len (a : List W) : ∀ i, (c1 a i).length = 5
 | 0 => by simp [c1]
 | i + 1 => by simp [c1, c1_len a i]
theorem b1_len (a c : List W) (t : List Nat) : ∀ i, (b1 a c t i).length = 25
 | 0 => by simp [b1]
 | i + 1 => by simp [b1, b1_len a c t i]
theorem a1_len (a b : List W) : ∀ i, (a1 a b i).length = a.length
 | 0 => rfl
 | i + 1 => by simp [a1, a1_len a b i]
structure R1 (w : World) (a : List W) (t : List Nat) (x : Nat) (wr : World) : Prop where
 sz : wr.heap.size = w.heap.size + 4
 h0 : wr.heap[w.heap.size]? = some (.cells (enc a) 131 (0, 0))
 h1 : wr.heap[w.heap.size + 1]? = some (.cells (encN t) 128 (0, 0))
 h2 : wr.heap[w.heap.size + 2]? = some (.cells (enc (List.replicate 25 0)) 131 (0, 0))
 h3 : wr.heap[w.heap.size + 3]? = some (.cells (enc (c1 a x)) 93 (0, 0))
 hb : Below w.heap.size w wr
structure R2 (w : World) (a : List W) (t : List Nat) (x : Nat) (wr : World) : Prop where
 sz : wr.heap.size = w.heap.size + 5
 h0 : wr.heap[w.heap.size]? = some (.cells (enc a) 131 (0, 0))
 h1 : wr.heap[w.heap.size + 1]? = some (.cells (encN t) 128 (0, 0))
 h2 : wr.heap[w.heap.size + 2]? = some (.cells (enc (List.replicate 25 0)) 131 (0, 0))
 h3 : wr.heap[w.heap.size + 3]? = some (.cells (enc (c1 a 25)) 93 (0, 0))
 h4 : wr.heap[w.heap.size + 4]? = some (.cells (enc (b1 a (c1 a 25) t x)) 131 (0, 0))
 hb : Below w.heap.size w wr
theorem R2.drewN {w wr : World} {a : List W} {t : List Nat} {x : Nat} (h : R2 w a t x wr) (n : Nat) : R2 w a t x (wr.drewN n) :=
 ⟨h.sz, h.h0, h.h1, h.h2, h.h3, h.h4, pw_below_drewN h.hb n⟩
structure R3 (w : World) (a B : List W) (x : Nat) (wr : World) : Prop where
 sz : wr.heap.size = w.heap.size + 5
 h0 : wr.heap[w.heap.size]? = some (.cells (enc (a1 a B x)) 131 (0, 0))
 h2 : wr.heap[w.heap.size + 2]? = some (.cells (enc (List.replicate 25 0)) 131 (0, 0))
 h4 : wr.heap[w.heap.size + 4]? = some (.cells (enc B) 131 (0, 0))
 hb : Below w.heap.size w wr
theorem R3.drew {w wr : World} {a B : List W} {x : Nat} (h : R3 w a B x wr) : R3 w a B x wr.drew :=
 ⟨h.sz, h.h0, h.h2, h.h4, below_drew h.hb⟩
set_option maxHeartbeats 4000000 in
set_option maxRecDepth 100000 in
theorem round_calls (a : List W) (t : List Nat) (k : W) (ha : a.length = 25) (ht : t.length = 25) (htl : ∀ n ∈ t, n < 64) (w : World) :
  Calls Tryz.prog 82 #[.agg (enc a), .agg (encN t), U k] w fun e w' => e = .returned (.agg (enc (roundL a t k))) ∧ Below w.heap.size w w' := by
 have hu3 := Tryz.underlying3
 have hu115 := Tryz.underlying92
 have hu116 := Tryz.underlying93
 have hu134 := Tryz.underlying128
 have hu137 := Tryz.underlying131
 go_enter Tryz.func82, Tryz.ntmps82
 have hz : Array.replicate 25 (Value.int IntKind.u64 0) = enc (List.replicate 25 0) := by rfl
 go_wp2_with ((with_reducible refine gate_dst (N := 17) rfl ?_); go_loud (refine wpList_load_row rfl 131 (.tmp 3) rfl w.heap.size rfl 131 (enc a) (0, 0) (.array 25 92) ?h0 hu137 rfl ?hi ?_); (case h0 => rw [heap_alloc_old, heap_alloc_old, heap_alloc_old, heap_alloc_new] <;> simp <;> omega); (case hi => rw [enc_size, ha]; kernel_rfl))
 go_loopw [18] (fun i wr => ∃ x : Nat, i = .int .i64 (x : Int) ∧ x ≤ 25 ∧ Aside0 (R1 w a t x wr)) (fun i _ => 25 - (intOf i).toNat)
 case atStart =>
  refine ⟨0, rfl, by omega, ⟨⟨by simp, ?_, ?_, ?_, ?_, below_alloc (below_alloc (below_alloc (below_alloc (Below.refl _ _) _) _) _) _⟩⟩⟩
  ·exact (h_old (by simp only [World.size_alloc]; omega)).trans ((h_old (by simp only [World.size_alloc]; omega)).trans ((h_old (by simp only [World.size_alloc]; omega)).trans (h_new (by simp))))
  ·exact (h_old (by simp only [World.size_alloc]; omega)).trans ((h_old (by simp only [World.size_alloc]; omega)).trans (h_new (by simp)))
  ·exact (h_old (by simp only [World.size_alloc]; omega)).trans (h_new (by simp))
  ·exact h_new (by simp)
 case round =>
  obtain ⟨x, rfl, hx1, HR⟩ := hrel
  by_cases c4 : x < 25
  ·have c4b : (x : Int) < 25 := by omega
   have c4c := eq_true c4b
   obtain ⟨q, hq⟩ : ∃ q, q = a.getD x 0 := ⟨_, rfl⟩
   obtain ⟨p, hp⟩ : ∃ p, p = (c1 a x).getD (x % 5) 0 := ⟨_, rfl⟩
   have hix := fun W => index_cs (P := Tryz.prog) hu137 hu115 (by kernel_rfl) c4 (enc_get a x (by omega)) W
   have hm : x % 5 < 5 := Nat.mod_lt _ (by decide)
   have hc := cell_enc (i := x % 5) HR.out.h3 (by rw [c1_len]; exact hm)
   have hf := frozen_of_row wr (w.heap.size + 3) (x % 5) _ 93 HR.out.h3
   rw [← hp] at hc
   simp only [← hq] at hix
   have HQ := Aside0.mk hq
   have HP := Aside0.mk hp
   clear hq hp
   have hbx := bits_x p q
   go_wp2
   refine ⟨⟨x + 1, by simp, by omega, ⟨⟨?_, ?_, ?_, ?_, ?_, ?_⟩⟩⟩, by simp [intOf]; omega⟩
   ·exact (size_sc _ _ _).trans HR.out.sz
   ·exact (heap_setCell_other _ _ _ _ (by show _ ≠ w.heap.size + 3; omega)).trans HR.out.h0
   ·exact (heap_setCell_other _ _ _ _ (by show _ ≠ w.heap.size + 3; omega)).trans HR.out.h1
   ·exact (heap_setCell_other _ _ _ _ (by show _ ≠ w.heap.size + 3; omega)).trans HR.out.h2
   ·rw [show c1 a (x + 1) = (c1 a x).set (x % 5) (p ^^^ q) by rw [HP.out, HQ.out]; rfl]
    exact heap_set_enc (i := x % 5) (p ^^^ q) HR.out.h3
   ·exact below_set HR.out.hb (by omega)
  ·obtain rfl : x = 25 := by omega
   clear c4 hx1
   have hsz := HR.out.sz
   go_wp2_with ((with_reducible refine gate_dst (N := 30) rfl ?_); go_loud (refine wpList_load_row rfl 131 (.tmp 3) rfl w.heap.size rfl 131 (enc a) (0, 0) (.array 25 92) ?h0 hu137 rfl ?hi ?_); (case h0 => exact (h_old (by omega)).trans HR.out.h0); (case hi => rw [enc_size, ha]; kernel_rfl))
   go_loopw [31] (fun i wr => ∃ x : Nat, i = .int .i64 (x : Int) ∧ x ≤ 25 ∧ Aside0 (R2 w a t x wr)) (fun i _ => 25 - (intOf i).toNat)
   case atStart =>
    refine ⟨0, rfl, by omega, ⟨⟨by simp [HR.out.sz], ?_, ?_, ?_, ?_, ?_, below_alloc HR.out.hb _⟩⟩⟩
    ·exact (h_old (by omega)).trans HR.out.h0
    ·exact (h_old (by omega)).trans HR.out.h1
    ·exact (h_old (by omega)).trans HR.out.h2
    ·exact (h_old (by omega)).trans HR.out.h3
    ·exact h_new (by omega)
   case round =>
    clear hsz
    obtain ⟨x, rfl, hx1, HS⟩ := hrel
    by_cases c4 : x < 25
    ·have c4b : (x : Int) < 25 := by omega
     have c4c := eq_true c4b
     obtain ⟨q, hq⟩ : ∃ q, q = a.getD x 0 := ⟨_, rfl⟩
     obtain ⟨tx, htx⟩ : ∃ n, n = t.getD x 0 := ⟨_, rfl⟩
     obtain ⟨x5, hx5⟩ : ∃ n, n = x % 5 := ⟨_, rfl⟩
     obtain ⟨y5, hy5⟩ : ∃ n, n = x / 5 := ⟨_, rfl⟩
     obtain ⟨e4, he4⟩ : ∃ n, n = (x5 + 4) % 5 := ⟨_, rfl⟩
     obtain ⟨e1, he1⟩ : ∃ n, n = (x5 + 1) % 5 := ⟨_, rfl⟩
     obtain ⟨j, hj⟩ : ∃ n, n = y5 + 5 * ((2 * x5 + 3 * y5) % 5) := ⟨_, rfl⟩
     obtain ⟨p, hp⟩ : ∃ p, p = (c1 a 25).getD e4 0 := ⟨_, rfl⟩
     obtain ⟨r, hr⟩ : ∃ p, p = (c1 a 25).getD e1 0 := ⟨_, rfl⟩
     have HX : (x : Int) % 5 = x5 := by omega
     have HY : (x : Int) / 5 = y5 := by omega
     have H4 : ((x5 : Int) + 4) % 5 = e4 := by omega
     have H1 : ((x5 : Int) + 1) % 5 = e1 := by omega
     have HJ : (y5 : Int) + 5 * ((2 * x5 + 3 * y5) % 5) = j := by omega
     have k1 : (x5 : Int) < 5 := by omega
     have k2 : (y5 : Int) < 5 := by omega
     have k3 : (e4 : Int) < 5 := by omega
     have k4 : (e1 : Int) < 5 := by omega
     have k5 : (j : Int) < 25 := by omega
     have HIX := Aside0.mk (fun W => index_cs (P := Tryz.prog) hu137 hu115 (by kernel_rfl) c4 (enc_get a x (by omega)) W)
     rw [← hq] at HIX
     have hix := HIX.out
     have hca := cell_enc (i := e4) HS.out.h3 (by rw [c1_len]; omega)
     have hcb := cell_enc (i := e1) HS.out.h3 (by rw [c1_len]; omega)
     have hct := cell_encN (i := x) HS.out.h1 (by omega)
     rw [← hp] at hca
     rw [← hr] at hcb
     rw [← htx] at hct
     have HQ := Aside0.mk (⟨hq, hp, hr, htx, hx5, hy5, he4, he1, hj⟩ : _ ∧ _ ∧ _ ∧ _ ∧ _ ∧ _ ∧ _ ∧ _ ∧ _)
     clear hq hp hr htx hx5 hy5 he4 he1 hj HIX
     go_wp2
     simp only [HX]
     obtain ⟨u, hu⟩ : ∃ u, u = p ^^^ rotl r 1 := ⟨_, rfl⟩
     obtain ⟨v, hv⟩ : ∃ u, u = q ^^^ (p ^^^ rotl r 1) := ⟨_, rfl⟩
     have hbx : bits .xor .u64 (p.toNat : Int) ((rotl r 1).toNat : Int) = (u.toNat : Int) := by rw [bits_x, hu]
     have hby : bits .xor .u64 (q.toNat : Int) (u.toNat : Int) = (v.toNat : Int) := by rw [bits_x, hu, hv]
     have HUV := Aside0.mk (⟨hu, hv⟩ : _ ∧ _)
     clear hu hv hct
     go_quiet ((go_at_call 98; exact Calls.quiet_of_same (rot1_calls r _)))
     clear hca hcb hbx hby hix H4 H1
     have HS2 := Aside0.mk (HS.out.drewN nq)
     clear HS
     generalize wr.drewN nq = wd at HS2 ⊢
     have hct := cell_encN (i := x) HS2.out.h1 (by omega)
     have htx : tx = t.getD x 0 := HQ.out.2.2.2.1
     rw [← htx] at hct
     have htx2 : tx < 64 := by
      rw [htx, List.getD_eq_getElem?_getD, List.getElem?_eq_getElem (by omega)]
      exact htl _ (List.getElem_mem _)
     have HT := Aside0.mk htx2
     clear htx htx2
     have hcj := cell_enc (i := j) HS2.out.h4 (by rw [b1_len]; omega)
     have hfj := frozen_of_row wd (w.heap.size + 4) j _ 131 HS2.out.h4
     go_wp2_with (go_at_call 98; refine (rot_calls v tx HT.out _).mono ?_; rintro e w' ⟨rfl, rfl⟩)
     refine ⟨⟨x + 1, by simp, by omega, ⟨⟨?_, ?_, ?_, ?_, ?_, ?_, ?_⟩⟩⟩, by simp [intOf]; omega⟩
     ·exact (size_sc _ _ _).trans HS2.out.sz
     ·exact (heap_setCell_other _ _ _ _ (by show _ ≠ w.heap.size + 4; omega)).trans HS2.out.h0
     ·exact (heap_setCell_other _ _ _ _ (by show _ ≠ w.heap.size + 4; omega)).trans HS2.out.h1
     ·exact (heap_setCell_other _ _ _ _ (by show _ ≠ w.heap.size + 4; omega)).trans HS2.out.h2
     ·exact (heap_setCell_other _ _ _ _ (by show _ ≠ w.heap.size + 4; omega)).trans HS2.out.h3
     ·rw [show b1 a (c1 a 25) t (x + 1) = (b1 a (c1 a 25) t x).set j (rotl v tx) by
       obtain ⟨g1, g2, g3, g4, g5, g6, g7, g8, g9⟩ := HQ.out
       rw [HUV.out.2, g9, g6, g5, g4, g1, g2, g3, g7, g8, g5]; rfl]
      exact heap_set_enc (i := j) (rotl v tx) HS2.out.h4
     ·exact below_set HS2.out.hb (by omega)
    ·obtain rfl : x = 25 := by omega
     clear c4 hx1
     obtain ⟨B, hB⟩ : ∃ B, B = b1 a (c1 a 25) t 25 := ⟨_, rfl⟩
     have hBl : B.length = 25 := by rw [hB, b1_len]
     have HS0 : Aside0 (R3 w a B 0 wr) := ⟨⟨HS.out.sz, HS.out.h0, HS.out.h2, by rw [hB]; exact HS.out.h4, HS.out.hb⟩⟩
     have HB := Aside0.mk hB
     clear HS HR hB
     go_wp2
     go_loopw [69] (fun i wr => ∃ x : Nat, i = .int .i64 (x : Int) ∧ x ≤ 25 ∧ Aside0 (R3 w a B x wr)) (fun i _ => 25 - (intOf i).toNat)
     case atStart => exact ⟨0, rfl, by omega, HS0⟩
     case round =>
      clear HS0
      obtain ⟨x, rfl, hx1, HT⟩ := hrel
      by_cases c4 : x < 25
      ·have c4b : (x : Int) < 25 := by omega
       have c4c := eq_true c4b
       obtain ⟨y, hy⟩ : ∃ n, n = x / 5 * 5 := ⟨_, rfl⟩
       obtain ⟨i1, hi1⟩ : ∃ n, n = y + (x + 1) % 5 := ⟨_, rfl⟩
       obtain ⟨i2, hi2⟩ : ∃ n, n = y + (x + 2) % 5 := ⟨_, rfl⟩
       obtain ⟨m1, hm1⟩ : ∃ n, n = (x + 1) % 5 := ⟨_, rfl⟩
       obtain ⟨m2, hm2⟩ : ∃ n, n = (x + 2) % 5 := ⟨_, rfl⟩
       have W1 : ((x : Int) + 1) % 5 = m1 := by omega
       have W2 : ((x : Int) + 2) % 5 = m2 := by omega
       have W3 : (y : Int) + m1 = i1 := by omega
       have W4 : (y : Int) + m2 = i2 := by omega
       have k4 : (m1 : Int) < 5 := by omega
       have k5 : (m2 : Int) < 5 := by omega
       obtain ⟨p, hp⟩ : ∃ p, p = B.getD x 0 := ⟨_, rfl⟩
       obtain ⟨q, hq⟩ : ∃ p, p = B.getD i1 0 := ⟨_, rfl⟩
       obtain ⟨r, hr⟩ : ∃ p, p = B.getD i2 0 := ⟨_, rfl⟩
       have HY : (x : Int) / 5 * 5 = y := by omega
       have k1 : (y : Int) < 25 := by omega
       have k2 : (i1 : Int) < 25 := by omega
       have k3 : (i2 : Int) < 25 := by omega
       have hp0 := cell_enc (i := x) HT.out.h4 (by omega)
       have hq0 := cell_enc (i := i1) HT.out.h4 (by omega)
       have hr0 := cell_enc (i := i2) HT.out.h4 (by omega)
       have ha0 := cell_enc (i := x) HT.out.h0 (by rw [a1_len]; omega)
       have hf0 := frozen_of_row wr w.heap.size x _ 131 HT.out.h0
       rw [← hp] at hp0
       rw [← hq] at hq0
       rw [← hr] at hr0
       have HQ := Aside0.mk (⟨hy, hi1, hi2, hp, hq, hr⟩ : _ ∧ _ ∧ _ ∧ _ ∧ _ ∧ _)
       clear hy hi1 hi2 hp hq hr hm1 hm2
       go_wp2
       refine region_qtail 22 (by kernel_rfl) (by kernel_rfl) (fun wd hwd => ?_)
       simp only [List.take_succ_cons, List.take_zero, List.drop_succ_cons, List.drop_zero]
       have HT2 : Aside0 (R3 w a B x wd) := ⟨by rw [hwd]; exact HT.out.drew⟩
       clear HT hp0 hq0 hr0 ha0 hf0 hwd
       have hp0 := cell_enc (i := x) HT2.out.h4 (by omega)
       have hq0 := cell_enc (i := i1) HT2.out.h4 (by omega)
       have hr0 := cell_enc (i := i2) HT2.out.h4 (by omega)
       have ha0 := cell_enc (i := x) HT2.out.h0 (by rw [a1_len]; omega)
       have hf0 := frozen_of_row wd w.heap.size x _ 131 HT2.out.h0
       rw [← HQ.out.2.2.2.1] at hp0
       rw [← HQ.out.2.2.2.2.1] at hq0
       rw [← HQ.out.2.2.2.2.2] at hr0
       repeat (go_big_quiet_step (fail))
       refine wpQuiet_nil ?_
       go_wp2
       refine ⟨⟨x + 1, by simp, by omega, ⟨⟨?_, ?_, ?_, ?_, ?_⟩⟩⟩, by simp [intOf]; omega⟩
       ·exact (size_sc _ _ _).trans HT2.out.sz
       ·rw [not_w, bits_a, bits_x]
        rw [show a1 a B (x + 1) = (a1 a B x).set x (p ^^^ (~~~ q &&& r)) by
         obtain ⟨g1, g2, g3, g4, g5, g6⟩ := HQ.out
         rw [g4, g5, g6, g2, g3, g1]; rfl]
        exact heap_set_enc (i := x) (p ^^^ (~~~ q &&& r)) HT2.out.h0
       ·exact (heap_setCell_other _ _ _ _ (by show _ ≠ w.heap.size; omega)).trans HT2.out.h2
       ·exact (heap_setCell_other _ _ _ _ (by show _ ≠ w.heap.size; omega)).trans HT2.out.h4
       ·exact below_set HT2.out.hb (by omega)
      ·obtain rfl : x = 25 := by omega
       clear c4 hx1
       obtain ⟨A, hA⟩ : ∃ A, A = a1 a B 25 := ⟨_, rfl⟩
       have hAl : A.length = 25 := by rw [hA, a1_len, ha]
       have hh0 := HT.out.h0
       rw [← hA] at hh0
       have h00 := cell_enc (i := 0) hh0 (by omega)
       have hf0 := frozen_of_row wr w.heap.size 0 _ 131 hh0
       obtain ⟨p, hp⟩ : ∃ p, p = A.getD 0 0 := ⟨_, rfl⟩
       rw [← hp] at h00
       have hbx := bits_x p k
       obtain ⟨v, hv⟩ : ∃ v, v = p ^^^ k := ⟨_, rfl⟩
       rw [← hv] at hbx
       have HH := Aside0.mk hh0
       have HP := Aside0.mk (⟨hA, hp, hv⟩ : _ ∧ _ ∧ _)
       clear hh0 hA hp hv
       have hr : roundL a t k = A.set 0 v := by
        rw [HP.out.2.2, HP.out.2.1, HP.out.1, HB.out]; rfl
       have HRR := Aside0.mk hr
       clear hr
       go_wp2_with (first | ((with_reducible refine gate_dst (N := 103) rfl ?_); go_loud (refine wpList_load_row rfl 131 (.tmp 3) rfl w.heap.size rfl 131 (enc (A.set 0 v)) (0, 0) (.array 25 92) ?g0 hu137 rfl ?g1 ?_); (case g0 => exact heap_set_enc (i := 0) v HH.out); (case g1 => rw [enc_size, List.length_set, hAl]; kernel_rfl)) | ((with_reducible refine gate_store (t := 131) rfl ?_); go_loud (refine wpList_store_row rfl 131 (.tmp 6) (.tmp 103) rfl (w.heap.size + 2) (enc (A.set 0 v)) rfl rfl 131 (enc (List.replicate 25 0)) ?g2 ?g3 ?g4 (enc_one _) ?_); (case g2 => exact (heap_setCell_other _ _ _ _ (by show _ ≠ w.heap.size; omega)).trans HT.out.h2); (case g3 => rw [enc_size, List.length_set, hAl]; kernel_rfl); (case g4 => rw [enc_size, enc_size, List.length_set, hAl]; rfl)))
       refine bodyPost_ret (v := .agg (enc (A.set 0 v))) ?_ rfl ⟨by rw [HRR.out], below_setRow (below_set HT.out.hb (by omega)) (by omega)⟩
       exact results_cell_row rfl _ _ (w.heap.size + 2) 131 _ (0, 0) _ rfl (setRow_heap _ _ _ _ _ _ ((heap_setCell_other _ _ _ _ (by show _ ≠ w.heap.size; omega)).trans HT.out.h2)) hu137 rfl (by rw [enc_size, List.length_set, hAl]; kernel_rfl)
end Go.Proofs.YtanabbjakacgbaaGreatDoor.Sp
namespace Go.Proofs.YtanabbjakacgbaaGreatDoor.Sp
open Go.RowKit Go.Proofs.YtanabbjakacgbaaGreatDoorW.PrintWords Go.Proofs.YtanabbjakacgbaaGreatDoorW.PrintLast Go.Proofs.YtanabbjakacgbaaGreatDoorW.PrintMore
set_option linter.unusedVariables false
set_option linter.unusedSimpArgs false
def wordsW : List W := [0x0000000000000001, 0x0000000000008082, 0x800000000000808a, 0x8000000080008000,
 0x000000000000808b, 0x0000000080000001, 0x8000000080008081, 0x8000000000008009,
 0x000000000000008a, 0x0000000000000088, 0x0000000080008009, 0x000000008000000a,
 0x000000008000808b, 0x800000000000008b, 0x8000000000008089, 0x8000000000008003,
 0x8000000000008002, 0x8000000000000080, 0x000000000000800a, 0x800000008000000a,
 0x8000000080008081, 0x8000000000008080, 0x0000000080000001, 0x8000000080008008]
def Words (w : World) : Prop := w.heap[0]? = some (.cells (enc wordsW) 95 (0, 0)) ∧ 0 < w.heap.size
structure Turn (g : Nat) (w w' : World) : Prop where
 os : w'.os = w.os
 tape : w'.tape = w.tape
 output : w'.output = w.output
 size : w.heap.size ≤ w'.heap.size
 same : ∀ k, k < w.heap.size → k ≠ g → w'.heap[k]? = w.heap[k]?
theorem Turn.refl (g : Nat) (w : World) : Turn g w w := ⟨rfl, rfl, rfl, Nat.le_refl _, fun _ _ _ => rfl⟩
theorem Turn.trans {g : Nat} {A B C : World} (h : Turn g A B) (k : Turn g B C) : Turn g A C :=
 ⟨k.os.trans h.os, k.tape.trans h.tape, k.output.trans h.output, Nat.le_trans h.size k.size, fun i hi hg => (k.same i (Nat.lt_of_lt_of_le hi h.size) hg).trans (h.same i hi hg)⟩
theorem Turn.set {g j : Nat} {A B : World} (h : Turn g A B) (v : Value) : Turn g A (B.setCell ⟨g, j, none⟩ v) :=
 ⟨h.os, h.tape, h.output, by rw [size_sc]; exact h.size, fun k hk hg => (heap_setCell_other _ _ _ _ hg).trans (h.same k hk hg)⟩
theorem Turn.setRow {g : Nat} {A B : World} (h : Turn g A B) (cs : Array Value) : Turn g A (B.setRow g cs) :=
 ⟨h.os, h.tape, h.output, by rw [setRow_size]; exact h.size, fun k hk hg => (setRow_other _ _ _ _ hg).trans (h.same k hk hg)⟩
theorem Turn.drew {g : Nat} {A B : World} (h : Turn g A B) : Turn g A B.drew := ⟨h.os, h.tape, h.output, h.size, h.same⟩
theorem Turn.of_below {g : Nat} {A B : World} (h : Below A.heap.size A B) : Turn g A B := ⟨h.os, h.tape, h.output, h.size, fun k hk _ => h.block k hk⟩
theorem Turn.below {g b : Nat} {A B : World} (h : Turn g A B) (hb : b ≤ A.heap.size) (hg : b ≤ g) : Below b A B := ⟨h.os, h.tape, h.output, h.size, fun k hk => h.same k (by omega) (by omega)⟩
def sip (a : List W) (l : List Int) : Nat → List W
 | 0 => a
 | i + 1 => (sip a l i).set (i / 8) ((sip a l i).getD (i / 8) 0 ^^^ (BitVec.ofNat 64 (l.getD i 0).toNat <<< (8 * (i % 8))))
def roundsL (a : List W) (t : List Nat) : Nat → List W
 | 0 => a
 | i + 1 => roundL (roundsL a t i) t (wordsW.getD i 0)
def mixL (a : List W) (t : List Nat) (l : List Int) : List W := roundsL (sip a l l.length) t 24
theorem sip_len (a : List W) (l : List Int) : ∀ i, (sip a l i).length = a.length
 | 0 => rfl
 | i + 1 => by simp [sip, sip_len a l i]
theorem roundL_len (a : List W) (t : List Nat) (k : W) : (roundL a t k).length = a.length := by simp [roundL, a1_len]
theorem roundsL_len (a : List W) (t : List Nat) : ∀ i, (roundsL a t i).length = a.length
 | 0 => rfl
 | i + 1 => by simp [roundsL, roundL_len, roundsL_len a t i]
theorem mixL_len (a : List W) (t : List Nat) (l : List Int) : (mixL a t l).length = a.length := by simp [mixL, roundsL_len, sip_len]
theorem C_u8 {w : World} {A : Option Addr} {n : Nat} {xs : List Int} (h : Kd.C (Kd.int .u8) w A n xs) (x : Nat) (hx : x < n) : ∃ ad, A = some ad ∧ w.cell? (ad.add x) = some (.int .u8 (xs.getD x 0)) := by
 obtain ⟨ad, c, e, _, hK, hc⟩ := Kd.C_get h 0 (x : Int) (by omega) (by omega)
 cases hK
 have := hc 0 _ rfl
 refine ⟨ad, e, ?_⟩
 simpa [Kd.int, Kd.scalar] using this
structure M1 (w : World) (ga gt : Nat) (a : List W) (t : List Nat) (l : List Int) (x : Nat) (wr : World) : Prop where
 ha : wr.heap[ga]? = some (.cells (enc (sip a l x)) 131 (0, 0))
 ht : Turn ga w wr
set_option maxHeartbeats 4000000 in
set_option maxRecDepth 100000 in
theorem mix_calls (a : List W) (t : List Nat) (l : List Int) (A : Option Addr) (c ga gt : Nat) (ha : a.length = 25) (ht : t.length = 25) (htl : ∀ n ∈ t, n < 64) (hl : l.length ≤ 136) (hb : ∀ b ∈ l, 0 ≤ b ∧ b < 256) (hc : l.length ≤ c) (w : World)
  (hW : Words w) (hga : w.heap[ga]? = some (.cells (enc a) 131 (0, 0))) (hgt : w.heap[gt]? = some (.cells (encN t) 128 (0, 0))) (hr : Kd.C (Kd.int .u8) w A l.length l) (hA : ∀ ad, A = some ad → 0 < l.length → ad.block ≠ ga) :
  Calls Tryz.prog 81 #[.slice A l.length c, .pointer (some ⟨ga, 0, none⟩), .pointer (some ⟨gt, 0, none⟩)] w fun e w' => e = .returned (.tuple #[]) ∧ w'.heap[ga]? = some (.cells (enc (mixL a t l)) 131 (0, 0)) ∧ Turn ga w w' := by
 have hu3 := Tryz.underlying3
 have hu115 := Tryz.underlying92
 have hu137 := Tryz.underlying131
 have hu134 := Tryz.underlying128
 have hu118 := Tryz.underlying95
 have hu50 := Tryz.underlying53
 have hu5 := Tryz.underlying5
 have hgn : ga ≠ gt := by
  rintro rfl
  rw [hga] at hgt
  simp at hgt
 have hg0 : ga ≠ 0 := by
  rintro rfl
  rw [hW.1] at hga
  simp at hga
 have hgl : ga < w.heap.size := (Array.getElem?_eq_some_iff.1 hga).1
 have hgtl : gt < w.heap.size := (Array.getElem?_eq_some_iff.1 hgt).1
 have HS := Aside0.mk (⟨hW, hga, hgt, hr, hA, hgn, hg0, hgl, hgtl, hb⟩ : _ ∧ _ ∧ _ ∧ _ ∧ _ ∧ _ ∧ _ ∧ _ ∧ _ ∧ _)
 clear hW hga hgt hr hA hgn hg0 hgl hgtl hb
 go_enter Tryz.func81, Tryz.ntmps81
 go_wp2
 go_loopw [10] (fun i wr => ∃ x : Nat, i = .int .i64 (x : Int) ∧ x ≤ l.length ∧ Aside0 (M1 w ga gt a t l x wr)) (fun i _ => l.length - (intOf i).toNat)
 case atStart => exact ⟨0, rfl, by omega, ⟨⟨HS.out.2.1, Turn.refl _ _⟩⟩⟩
 case round =>
  obtain ⟨x, rfl, hx1, HR⟩ := hrel
  by_cases c4 : x < l.length
  ·have c4b : (x : Int) < (l.length : Int) := by omega
   have c4c := eq_true c4b
   have c4d := decide_eq_true c4b
   obtain ⟨hW, hga, hgt, hr, hA, hgn, hg0, hgl, hgtl, hb⟩ := HS.out
   obtain ⟨ad, rfl, hx0⟩ := C_u8 hr x c4
   have hadg : ad.block ≠ ga := hA ad rfl (by omega)
   have hadl : ad.block < w.heap.size := by
    have := World.block_lt_of_cell? w _ hx0
    rwa [add_block] at this
   obtain ⟨y, hy⟩ : ∃ y : W, y = BitVec.ofNat 64 (l.getD x 0).toNat := ⟨_, rfl⟩
   have hbb : 0 ≤ l.getD x 0 ∧ l.getD x 0 < 256 := by
    rw [List.getD_eq_getElem?_getD, List.getElem?_eq_getElem c4]
    exact hb _ (List.getElem_mem _)
   have hyn : l.getD x 0 = (y.toNat : Int) := by
    rw [hy, BitVec.toNat_ofNat]
    omega
   have hy1 : (y.toNat : Int) < 256 := by omega
   rw [hyn] at hx0
   have hx1' : wr.cell? (ad.add x) = some (.int .u8 (y.toNat : Int)) := (World.cell?_of_block (w := w) (HR.out.ht.same _ (by rw [add_block]; exact hadl) (by rw [add_block]; exact hadg))).trans hx0
   obtain ⟨x8, hx8⟩ : ∃ n, n = x / 8 := ⟨_, rfl⟩
   obtain ⟨m8, hm8⟩ : ∃ n, n = x % 8 := ⟨_, rfl⟩
   obtain ⟨s8, hs8⟩ : ∃ n, n = 8 * m8 := ⟨_, rfl⟩
   obtain ⟨p, hp⟩ : ∃ p, p = (sip a l x).getD x8 0 := ⟨_, rfl⟩
   obtain ⟨z, hz⟩ : ∃ z, z = y <<< s8 := ⟨_, rfl⟩
   obtain ⟨v, hv⟩ : ∃ v, v = p ^^^ z := ⟨_, rfl⟩
   have K1 : (x : Int) / 8 = x8 := by omega
   have K2 : (x : Int) % 8 = m8 := by omega
   have K3 : 8 * (m8 : Int) = s8 := by omega
   have k1 : (x8 : Int) < 25 := by omega
   have k2 : (m8 : Int) < 8 := by omega
   have k3 : (s8 : Int) ≤ 64 := by omega
   have K4 : IntKind.u64.wrap ((y.toNat : Int) * 2 ^ s8) = (z.toNat : Int) := by rw [shl_w, hz]
   have K5 : bits .xor .u64 (p.toNat : Int) (z.toNat : Int) = (v.toNat : Int) := by rw [bits_x, hv]
   have HQ := Aside0.mk (⟨hy, hx8, hm8, hs8, hp, hz, hv, hgl⟩ : _ ∧ _ ∧ _ ∧ _ ∧ _ ∧ _ ∧ _ ∧ _)
   clear hW hga hgt hr hA hgn hg0 hgl hgtl hb hx0 hadg hadl hyn hbb hy hx8 hm8 hs8 hp hz hv
   go_wp2
   refine region_qtail 12 (by kernel_rfl) (by kernel_rfl) (fun wd hwd => ?_)
   simp only [List.take_succ_cons, List.take_zero, List.drop_succ_cons, List.drop_zero]
   have HR2 : Aside0 (M1 w ga gt a t l x wd) := ⟨by rw [hwd]; exact ⟨HR.out.ha, HR.out.ht.drew⟩⟩
   clear HR hx1' hwd
   have hc0 := cell_enc (i := x8) HR2.out.ha (by rw [sip_len]; omega)
   have hf0 := frozen_of_row wd ga x8 _ 131 HR2.out.ha
   rw [← HQ.out.2.2.2.2.1] at hc0
   repeat (go_big_quiet_step (fail))
   refine wpQuiet_nil ?_
   go_wp2
   refine ⟨⟨x + 1, by simp, by omega, ⟨⟨?_, HR2.out.ht.set _⟩⟩⟩, by simp [intOf]; omega⟩
   rw [show sip a l (x + 1) = (sip a l x).set x8 v by
    obtain ⟨g1, g2, g3, g4, g5, g6, g7, g8⟩ := HQ.out
    rw [g7, g5, g6, g4, g3, g1, g2]; rfl]
   exact heap_set_enc (i := x8) v HR2.out.ha
  ·obtain rfl : x = l.length := by omega
   clear c4 hx1
   obtain ⟨A0, hA0⟩ : ∃ A0, A0 = sip a l l.length := ⟨_, rfl⟩
   have hAl : A0.length = 25 := by rw [hA0, sip_len, ha]
   obtain ⟨hW, hga, hgt, hr, hA, hgn, hg0, hgl, hgtl, hb⟩ := HS.out
   have HM : Aside0 (wr.heap[ga]? = some (.cells (enc A0) 131 (0, 0)) ∧ Turn ga w wr) := ⟨by rw [hA0]; exact HR.out.ha, HR.out.ht⟩
   have HW := Aside0.mk ((HR.out.ht.same 0 hW.2 (Ne.symm hg0)).trans hW.1)
   have HG := Aside0.mk ((HR.out.ht.same gt hgtl (Ne.symm hgn)).trans hgt)
   have HL := Aside0.mk (⟨hgn, hg0, Nat.lt_of_lt_of_le hgtl HR.out.ht.size, Nat.lt_of_lt_of_le hW.2 HR.out.ht.size⟩ : _ ∧ _ ∧ _ ∧ _)
   have HA0 := Aside0.mk hA0
   clear hW hga hgt hr hA hgn hg0 hgl hgtl hb HS HR hA0
   have c5 : decide ((l.length : Int) < (l.length : Int)) = false := by simp
   generalize wr = wq at HM HW HG HL ⊢
   go_wp2_with ((with_reducible refine gate_dst (N := 28) rfl ?_); go_loud (refine wpList_load_row rfl 95 (.global 0) rfl 0 rfl 95 (enc wordsW) (0, 0) (.array 24 92) ?g0 hu118 rfl (by kernel_rfl) ?_); (case g0 => exact HW.out))
   clear HW
   go_loopw [29] (fun i wr => ∃ x : Nat, i = .int .i64 (x : Int) ∧ x ≤ 24 ∧ Aside0 (wr.heap[ga]? = some (.cells (enc (roundsL A0 t x)) 131 (0, 0)) ∧ Turn ga wq wr)) (fun i _ => 24 - (intOf i).toNat)
   case atStart => exact ⟨0, rfl, by omega, ⟨⟨HM.out.1, Turn.refl _ _⟩⟩⟩
   case round =>
    obtain ⟨x, rfl, hx1, HR⟩ := hrel
    by_cases c4 : x < 24
    ·have c4b : (x : Int) < 24 := by omega
     have c4c := eq_true c4b
     obtain ⟨k, hk⟩ : ∃ k, k = wordsW.getD x 0 := ⟨_, rfl⟩
     obtain ⟨B, hB⟩ : ∃ B, B = roundsL A0 t x := ⟨_, rfl⟩
     have hBl : B.length = 25 := by rw [hB, roundsL_len, hAl]
     have HB : Aside0 (wr.heap[ga]? = some (.cells (enc B) 131 (0, 0)) ∧ Turn ga wq wr) := ⟨by rw [hB]; exact HR.out.1, HR.out.2⟩
     have HK := Aside0.mk (⟨hk, hB⟩ : _ ∧ _)
     have hix := fun W => index_cs (P := Tryz.prog) hu118 hu115 (by kernel_rfl) c4 (enc_get wordsW x (by rw [show wordsW.length = 24 from rfl]; exact c4)) W
     simp only [← hk] at hix
     clear hk hB HR
     go_wp2_with (first
      | ((with_reducible refine gate_dst (N := 32) rfl ?_); go_loud (refine wpList_load_row rfl 131 (.tmp 1) rfl ga rfl 131 (enc B) (0, 0) (.array 25 92) ?g0 hu137 rfl ?g1 ?_); (case g0 => exact HB.out.1); (case g1 => rw [enc_size, hBl]; kernel_rfl))
      | ((with_reducible refine gate_dst (N := 33) rfl ?_); go_loud (refine wpList_load_row rfl 128 (.tmp 2) rfl gt rfl 128 (encN t) (0, 0) (.array 25 3) ?g0 hu134 rfl ?g1 ?_); (case g0 => exact (HB.out.2.same gt HL.out.2.2.1 (Ne.symm HL.out.1)).trans HG.out); (case g1 => rw [encN_size, ht]; kernel_rfl))
      | (go_at_call 82; (refine (round_calls B t k hBl ht htl _).mono ?_); rintro e w3 ⟨rfl, hb3⟩)
      | ((with_reducible refine gate_store (t := 131) rfl ?_); go_loud (refine wpList_store_row rfl 131 (.tmp 1) (.tmp 35) rfl ga (enc (roundL B t k)) rfl rfl 131 (enc B) ?g2 ?g3 ?g4 (enc_one _) ?_); (case g2 => exact (hb3.block _ (Array.getElem?_eq_some_iff.1 HB.out.1).1).trans HB.out.1); (case g3 => rw [enc_size, roundL_len, hBl]; kernel_rfl); (case g4 => rw [enc_size, enc_size, roundL_len])))
     have hlt := (Array.getElem?_eq_some_iff.1 HB.out.1).1
     refine ⟨⟨x + 1, by simp, by omega, ⟨?_, (HB.out.2.trans (Turn.of_below hb3)).setRow _⟩⟩, by simp [intOf]; omega⟩
     rw [show roundsL A0 t (x + 1) = roundL B t k by rw [HK.out.1, HK.out.2]; rfl]
     exact setRow_heap _ _ _ _ _ _ ((hb3.block _ hlt).trans HB.out.1)
    ·obtain rfl : x = 24 := by omega
     go_wp2
     go_end0
     exact ⟨rfl, by rw [show mixL a t l = roundsL A0 t 24 by rw [HA0.out]; rfl]; exact HR.out.1, HM.out.2.trans HR.out.2⟩
end Go.Proofs.YtanabbjakacgbaaGreatDoor.Sp
namespace Go.Proofs.YtanabbjakacgbaaGreatDoor.Sp
open Go.RowKit Go.Proofs.YtanabbjakacgbaaGreatDoorW.PrintWords Go.Proofs.YtanabbjakacgbaaGreatDoorW.PrintLast Go.Proofs.YtanabbjakacgbaaGreatDoorW.PrintMore
set_option linter.unusedVariables false
set_option linter.unusedSimpArgs false
def turnsF : Nat → Nat × Nat × List Nat
 | 0 => (1, 0, List.replicate 25 0)
 | n + 1 => ((turnsF n).2.1, (2 * (turnsF n).1 + 3 * (turnsF n).2.1) % 5, (turnsF n).2.2.set ((turnsF n).1 + 5 * (turnsF n).2.1) ((n + 1) * (n + 2) / 2 % 64))
def turnsL : List Nat := (turnsF 24).2.2
theorem turnsF_ok : ∀ n, n ≤ 24 → (turnsF n).1 < 5 ∧ (turnsF n).2.1 < 5 ∧ (turnsF n).2.2.length = 25 := by decide +kernel
theorem turnsL_ok : turnsL.length = 25 ∧ ∀ n ∈ turnsL, n < 64 := by decide +kernel
structure T1 (w : World) (x : Nat) (wr : World) : Prop where
 sz : wr.heap.size = w.heap.size + 2
 h0 : wr.heap[w.heap.size]? = some (.cells (encN (List.replicate 25 0)) 128 (0, 0))
 h1 : wr.heap[w.heap.size + 1]? = some (.cells (encN (turnsF x).2.2) 128 (0, 0))
 hb : Below w.heap.size w wr
set_option maxHeartbeats 4000000 in
set_option maxRecDepth 100000 in
theorem turns_calls (w : World) : Calls Tryz.prog 80 #[] w fun e w' => e = .returned (.agg (encN turnsL)) ∧ Below w.heap.size w w' := by
 have hu3 := Tryz.underlying3
 have hu134 := Tryz.underlying128
 go_enter Tryz.func80, Tryz.ntmps80
 go_wp2
 go_loopw [2, 3, 5] (fun a b i wr => ∃ x : Nat, a = .int .i64 ((turnsF x).1 : Int) ∧ b = .int .i64 ((turnsF x).2.1 : Int) ∧ i = .int .i64 (x : Int) ∧ x ≤ 24 ∧ Aside0 (T1 w x wr)) (fun _ _ i _ => 24 - (intOf i).toNat)
 case atStart =>
  refine ⟨0, rfl, rfl, rfl, by omega, ⟨⟨by simp, ?_, ?_, below_alloc (below_alloc (Below.refl _ _) _) _⟩⟩⟩
  ·exact (h_old (by simp)).trans (h_new (by simp))
  ·exact h_new (by simp)
 case round =>
  obtain ⟨x, rfl, rfl, rfl, hx1, HR⟩ := hrel
  have hok := turnsF_ok x hx1
  obtain ⟨p, hp⟩ : ∃ p, p = (turnsF x).1 := ⟨_, rfl⟩
  obtain ⟨q, hq⟩ : ∃ p, p = (turnsF x).2.1 := ⟨_, rfl⟩
  rw [← hp, ← hq] at hok ⊢
  by_cases c4 : x < 24
  ·have c4b : (x : Int) < 24 := by omega
   have c4c := eq_true c4b
   have k1 : (p : Int) < 5 := by omega
   have k2 : (q : Int) < 5 := by omega
   obtain ⟨j, hj⟩ : ∃ j, j = p + 5 * q := ⟨_, rfl⟩
   obtain ⟨v, hv⟩ : ∃ v, v = (x + 1) * (x + 2) / 2 % 64 := ⟨_, rfl⟩
   have K1 : (p : Int) + 5 * q = j := by omega
   have k3 : (j : Int) < 25 := by omega
   have hc := cell_encN (i := j) HR.out.h1 (by omega)
   have hf := frozen_of_row wr (w.heap.size + 1) j _ 128 HR.out.h1
   have HQ := Aside0.mk (⟨hp, hq, hj, hv, hok⟩ : _ ∧ _ ∧ _ ∧ _ ∧ _)
   have hb1 : ((x : Int) + 1) * (x + 2) ≤ 650 := by
    have : (x + 1) * (x + 2) ≤ 25 * 26 := Nat.mul_le_mul (by omega) (by omega)
    have h2 : (((x + 1) * (x + 2) : Nat) : Int) ≤ 650 := by omega
    simpa using h2
   have hb2 : 0 ≤ ((x : Int) + 1) * (x + 2) := Int.mul_nonneg (by omega) (by omega)
   have K2 : ((x : Int) + 1) * (x + 2) / 2 % 64 = v := by rw [hv]; simp
   clear hp hq hj hv hok
   go_wp2
   have ho := HQ.out.2.2.2.2
   refine ⟨⟨x + 1, ?_, ?_, by simp, by omega, ⟨⟨?_, ?_, ?_, ?_⟩⟩⟩, by simp [intOf]; omega⟩
   ·rw [show (turnsF (x + 1)).1 = q by rw [HQ.out.2.1]; rfl]
   ·rw [show (turnsF (x + 1)).2.1 = (2 * p + 3 * q) % 5 by rw [HQ.out.1, HQ.out.2.1]; rfl]; simp
   ·exact (size_sc _ _ _).trans HR.out.sz
   ·exact (heap_setCell_other _ _ _ _ (by show _ ≠ w.heap.size + 1; omega)).trans HR.out.h0
   ·rw [show (turnsF (x + 1)).2.2 = (turnsF x).2.2.set j v by rw [HQ.out.2.2.1, HQ.out.2.2.2.1, HQ.out.1, HQ.out.2.1]; rfl]
    exact heap_set_encN (i := j) v HR.out.h1
   ·exact below_set HR.out.hb (by omega)
  ·obtain rfl : x = 24 := by omega
   have ht : Aside0 ((turnsF 24).2.2 = turnsL) := ⟨rfl⟩
   go_wp2_with (first
    | ((with_reducible refine gate_dst (N := 28) rfl ?_); go_loud (refine wpList_load_row rfl 128 (.tmp 1) rfl (w.heap.size + 1) rfl 128 (encN turnsL) (0, 0) (.array 25 3) ?g0 hu134 rfl ?g1 ?_); (case g0 => exact HR.out.h1); (case g1 => rw [encN_size, turnsL_ok.1]; kernel_rfl))
    | ((with_reducible refine gate_store (t := 128) rfl ?_); go_loud (refine wpList_store_row rfl 128 (.tmp 0) (.tmp 28) rfl w.heap.size (encN turnsL) rfl rfl 128 (encN (List.replicate 25 0)) HR.out.h0 ?g3 ?g4 (encN_one _) ?_); (case g3 => rw [encN_size, turnsL_ok.1]; kernel_rfl); (case g4 => rw [encN_size, encN_size, turnsL_ok.1]; rfl)))
   refine bodyPost_ret (v := .agg (encN turnsL)) ?_ rfl ⟨rfl, below_setRow HR.out.hb (by omega)⟩
   exact results_cell_row rfl _ _ w.heap.size 128 _ (0, 0) _ rfl (setRow_heap _ _ _ _ _ _ HR.out.h0) hu134 rfl (by rw [encN_size, turnsL_ok.1]; kernel_rfl)
end Go.Proofs.YtanabbjakacgbaaGreatDoor.Sp
namespace Go.Proofs.YtanabbjakacgbaaGreatDoor.Sp
open Go.RowKit Go.Proofs.YtanabbjakacgbaaGreatDoorW.PrintWords Go.Proofs.YtanabbjakacgbaaGreatDoorW.PrintLast Go.Proofs.YtanabbjakacgbaaGreatDoorW.PrintMore
set_option linter.unusedVariables false
set_option linter.unusedSimpArgs false
def encI (l : List Int) : Array Value := (l.map (Value.int .u8)).toArray
theorem encI_size (l : List Int) : (encI l).size = l.length := by simp [encI]
theorem encI_get (l : List Int) (i : Nat) (h : i < l.length) : (encI l)[i]? = some (.int .u8 (l.getD i 0)) := by
 simp [encI, List.getElem?_map, List.getElem?_eq_getElem h, List.getD_eq_getElem?_getD]
theorem encI_set (l : List Int) (i : Nat) (x : Int) : (encI l).setIfInBounds i (.int .u8 x) = encI (l.set i x) := by
 simp [encI, List.map_set]
theorem encI_one (l : List Int) : (encI l).all (·.oneCell') = true := by
 rw [Array.all_eq_true_iff_forall_mem]
 intro x hx
 simp only [encI, List.mem_toArray, List.mem_map] at hx
 obtain ⟨y, _, rfl⟩ := hx
 rfl
section
variable {w : World} {g i : Nat} {t : TypeId}
theorem cell_encI {l : List Int} {fr : Nat × Nat} (hg : w.heap[g]? = some (.cells (encI l) t fr)) (h : i < l.length) : w.cell? ⟨g, i, none⟩ = some (.int .u8 (l.getD i 0)) :=
 (cell_of_row w g i _ t fr hg).trans (encI_get l i h)
theorem heap_set_encI {l : List Int} (x : Int) (hg : w.heap[g]? = some (.cells (encI l) t (0, 0))) : (w.setCell ⟨g, i, none⟩ (.int .u8 x)).heap[g]? = some (.cells (encI (l.set i x)) t (0, 0)) := by
 rw [heap_setCell_same w g i _ t _ hg, encI_set]
end
def zeros25 : List W := List.replicate 25 0
def eat (l : List Int) : Nat → List W × List Int
 | 0 => (zeros25, l)
 | x + 1 => (mixL (eat l x).1 turnsL ((eat l x).2.take 136), (eat l x).2.drop 136)
def endL (r : List Int) : List Int :=
 let e := (r ++ List.replicate (136 - r.length) 0).set r.length 6
 e.set 135 ((e.getD 135 0 + 128) % 256)
def outF (a : List W) : Nat → List Int
 | 0 => List.replicate 32 0
 | i + 1 => (outF a i).set i ((((a.getD (i / 8) 0) >>> (8 * (i % 8))).toNat : Int) % 256)
def lastL (l : List Int) : List W := mixL (eat l (l.length / 136)).1 turnsL (endL (eat l (l.length / 136)).2)
def sumL (l : List Int) : List Int := outF (lastL l) 32
theorem eat_s1 (l : List Int) (x : Nat) : (eat l (x + 1)).1 = mixL (eat l x).1 turnsL ((eat l x).2.take 136) := by rw [eat]
theorem eat_s2 (l : List Int) (x : Nat) : (eat l (x + 1)).2 = (eat l x).2.drop 136 := by rw [eat]
theorem eat_1 (l : List Int) : ∀ x, (eat l x).1.length = 25
 | 0 => by simp [eat, zeros25]
 | x + 1 => by simp [eat, mixL_len, eat_1 l x]
theorem eat_2 (l : List Int) : ∀ x, (eat l x).2 = l.drop (136 * x)
 | 0 => by simp [eat]
 | x + 1 => by simp [eat, eat_2 l x, Nat.mul_add]
theorem outF_len (a : List W) : ∀ i, (outF a i).length = 32
 | 0 => by simp [outF]
 | i + 1 => by simp [outF, outF_len a i]
def lenV : Value → Nat
 | .slice _ n _ => n
 | _ => 0
theorem Words.below {w W : World} (h : Words w) (hb : Below w.heap.size w W) : Words W := ⟨(hb.block 0 h.2).trans h.1, Nat.lt_of_lt_of_le h.2 hb.size⟩
theorem wpList_make {P : Program} {w : World} {ops : Array Oper} {rest : List Oper} {o : Oper} {a : Act} {Q : Exit → Act → World → Prop} (hgd : o.guard = none) (t : TypeId) (x y : Operand) (ho : o.op = .makeSlice t x y) (vx vy v : Value) (hx : a.eval x = vx) (hy : a.eval y = vy) (W : World)
  (hrun : (Instr.makeSlice t vx vy).run P w = .ok v W) (h : wpList P ops Q rest (a.put o.dst v) W) : wpList P ops Q (o :: rest) a w := by
 refine wpList_plain hgd fun K hK => ?_
 unfold Oper.wp
 simp [execOp, ho, hx, hy, hrun, Result.andThen, Sem.run_bind, Sem.run_map]
 exact hK _ _ h
theorem infoByte : (Tryz.prog.info? 5).map (fun i => (i.zero, i.size, i.bytes)) = some (some (.int .u8 0), 1, 1) := by kernel_rfl
theorem i5_ex : ∃ i, Tryz.prog.info? 5 = some i ∧ i.zero = some (.int .u8 0) ∧ i.size = 1 ∧ i.bytes = 1 := by
 obtain ⟨i, h, hh⟩ := Option.map_eq_some_iff.1 infoByte
 simp only [Prod.mk.injEq] at hh
 exact ⟨i, h, hh.1, hh.2.1, hh.2.2⟩
theorem made136 : madeCells (Value.int .u8 0).cells ((136 : Int).toNat * 1) = encI (List.replicate 136 0) := by kernel_rfl
theorem C_src {w : World} {A : Option Addr} {n : Nat} {xs : List Int} (h : Kd.C (Kd.int .u8) w A n xs) (hp : 0 < n) : ∃ ad, A = some ad ∧ ∀ j v, (xs.map (Value.int .u8))[j]? = some v → w.cell? (ad.add j) = some v := by
 obtain ⟨ad, rfl, _⟩ := C_u8 h 0 hp
 refine ⟨ad, rfl, fun j v hj => ?_⟩
 have hl : j < n := by
  have := (List.getElem?_eq_some_iff.1 hj).1
  rw [List.length_map] at this
  have := h.1
  omega
 obtain ⟨ad', e, hx⟩ := C_u8 h j hl
 obtain rfl := Option.some.inj e
 rw [hx]
 rw [List.getElem?_map] at hj
 have hl2 : j < xs.length := by have := h.1; omega
 rw [List.getElem?_eq_getElem hl2] at hj
 rw [List.getD_eq_getElem?_getD, List.getElem?_eq_getElem hl2]
 exact hj
theorem one_u8 (xs : List Int) : ∀ v ∈ xs.map (Value.int .u8), v.oneCell' = true := by
 intro v hv
 obtain ⟨y, _, rfl⟩ := List.mem_map.1 hv
 rfl
theorem C_row {w : World} {g : Nat} {t : TypeId} {fr : Nat × Nat} {xs : List Int} (hg : w.heap[g]? = some (.cells (encI xs) t fr)) (hm : xs.length ≤ 1000) : Kd.C (Kd.int .u8) w (some ⟨g, 0, none⟩) xs.length xs := by
 refine ⟨rfl, by have : (1000 : Nat) ≤ 9223372036854775807 := (by decide); omega, fun _ => ⟨_, rfl, fun j p hj => ⟨[.int .u8 p], rfl, rfl, fun i u hi => ?_⟩⟩⟩
 have hl : j < xs.length := (List.getElem?_eq_some_iff.1 hj).1
 rcases i with _ | i
 ·obtain rfl := Option.some.inj hi
  have h := cell_encI (i := j) hg hl
  have e : xs.getD j 0 = p := by rw [List.getD_eq_getElem?_getD, hj]; rfl
  rw [e] at h
  rw [Addr.add_lit]
  show w.cell? ⟨g, 0 + (j * 1 + 0), none⟩ = _
  rw [Nat.zero_add, Nat.mul_one, Nat.add_zero]
  exact h
 ·simp at hi
theorem endL_len (r : List Int) (h : r.length < 136) : (endL r).length = 136 := by
 simp [endL]; omega
theorem endL_ok (r : List Int) (hr : ∀ b ∈ r, 0 ≤ b ∧ b < 256) : ∀ b ∈ endL r, 0 ≤ b ∧ b < 256 := by
 intro b hb
 unfold endL at hb
 rcases List.mem_or_eq_of_mem_set hb with hb | rfl
 ·rcases List.mem_or_eq_of_mem_set hb with hb | rfl
  ·rcases List.mem_append.1 hb with hb | hb
   ·exact hr b hb
   ·obtain ⟨_, rfl⟩ := List.mem_replicate.1 hb; omega
  ·omega
 ·omega
theorem splice_z (rs : List Int) : splice ((List.replicate 136 (0 : Int)).map (Value.int .u8)) 0 (rs.map (Value.int .u8)) = (rs ++ List.replicate (136 - rs.length) 0).map (Value.int .u8) := by
 rw [List.map_append, List.map_replicate, List.map_replicate]
 show List.take 0 _ ++ (_ ++ List.drop (0 + _) _) = _
 rw [List.take_zero, List.nil_append, Nat.zero_add, List.length_map, List.drop_replicate]
theorem end_call (l rs : List Int) (st : List W) (w w5 : World) (g ge : Nat) (hW : Words w) (hb : Below w.heap.size w w5) (hsl : st.length = 25) (hrl : rs.length < 136) (hrs : ∀ b ∈ rs, 0 ≤ b ∧ b < 256)
  (h5 : w5.heap[ge]? = some (.cells (encI (endL rs)) 5 (0, 0))) (h3 : w5.heap[g]? = some (.cells (encN turnsL) 128 (0, 0))) (h4 : w5.heap[g + 1]? = some (.cells (enc st) 131 (0, 0))) (hne : g + 1 < ge) :
  Calls Tryz.prog 81 #[.slice (some ⟨ge, 0, none⟩) 136 136, .pointer (some ⟨g + 1, 0, none⟩), .pointer (some ⟨g, 0, none⟩)] w5 fun e w' => e = .returned (.tuple #[]) ∧ w'.heap[g + 1]? = some (.cells (enc (mixL st turnsL (endL rs))) 131 (0, 0)) ∧ Turn (g + 1) w5 w' := by
 have hl := endL_len rs hrl
 have h := mix_calls st turnsL (endL rs) (some ⟨ge, 0, none⟩) 136 (g + 1) g hsl turnsL_ok.1 turnsL_ok.2 (by omega) (endL_ok rs hrs) (by omega) w5 (hW.below hb) h4 h3 (C_row h5 (by omega)) (fun ad e _ => by
  obtain rfl := Option.some.inj e
  show ge ≠ g + 1
  omega)
 rw [hl] at h
 exact h
structure E1 (w : World) (g : Nat) (l : List Int) (x : Nat) (A : Option Addr) (c : Nat) (wr : World) : Prop where
 hc : (eat l x).2.length ≤ c
 hr : Kd.C (Kd.int .u8) w A (eat l x).2.length (eat l x).2
 hN : wr.heap[w.heap.size]? = some (.cells (encI (List.replicate 32 0)) 30 (0, 0))
 h3 : wr.heap[g]? = some (.cells (encN turnsL) 128 (0, 0))
 h4 : wr.heap[g + 1]? = some (.cells (enc (eat l x).1) 131 (0, 0))
 hb : Below w.heap.size w wr
structure OutAt (w w6 : World) (go ga : Nat) (S : List W) (x : Nat) (wr : World) : Prop where
 ho : wr.heap[go]? = some (.cells (encI (outF S x)) 30 (0, 0))
 h4 : wr.heap[ga]? = some (.cells (enc S) 131 (0, 0))
 hN : wr.heap[w.heap.size]? = some (.cells (encI (List.replicate 32 0)) 30 (0, 0))
 hb : Below w.heap.size w wr
set_option maxHeartbeats 4000000 in
set_option maxRecDepth 100000 in
theorem sum_calls (l : List Int) (A : Option Addr) (c : Nat) (hb : ∀ b ∈ l, 0 ≤ b ∧ b < 256) (hc : l.length ≤ c) (hm : l.length ≤ 9223372036854775807) (w : World) (hW : Words w) (hr : Kd.C (Kd.int .u8) w A l.length l) :
  Calls Tryz.prog 62 #[.slice A l.length c] w fun e w' => e = .returned (.agg (encI (sumL l))) ∧ Below w.heap.size w w' := by
 have hu3 := Tryz.underlying3
 have hu115 := Tryz.underlying92
 have hu137 := Tryz.underlying131
 have hu134 := Tryz.underlying128
 have hu50 := Tryz.underlying53
 have hu5 := Tryz.underlying5
 have hu27 := Tryz.underlying30
 have HS := Aside0.mk (⟨hW, hr, hb⟩ : _ ∧ _ ∧ _)
 clear hW hr hb
 go_enter Tryz.func62, Tryz.ntmps62
 go_wp2_with (first
  | (go_at_call 80; (refine (turns_calls _).mono ?_); rintro e w1 ⟨rfl, hb1⟩)
  | ((with_reducible refine gate_store (t := 128) rfl ?_); go_loud (refine wpList_store_row rfl 128 (.tmp 3) (.tmp 9) rfl w1.heap.size (encN turnsL) rfl rfl 128 (encN (List.replicate 25 0)) (h_new rfl) ?g3 ?g4 (encN_one _) ?_); (case g3 => rw [encN_size, turnsL_ok.1]; kernel_rfl); (case g4 => rw [encN_size, encN_size, turnsL_ok.1]; rfl)))
 obtain ⟨g, hg⟩ : ∃ g, g = w1.heap.size := ⟨_, rfl⟩
 rw [← hg]
 have hgw : w.heap.size < g := by have := hb1.size; simp at this; omega
 have HI : Aside0 (E1 w g l 0 A c (((w1.alloc (.cells (encN (List.replicate 25 0)) 128)).setRow g (encN turnsL)).alloc (.cells (enc zeros25) 131))) := by
  refine ⟨⟨hc, HS.out.2.1, ?_, ?_, ?_, ?_⟩⟩
  ·exact (h_old (by rw [setRow_size, World.size_alloc]; omega)).trans ((setRow_other _ _ _ _ (by omega)).trans ((h_old (by omega)).trans ((hb1.block _ (by simp)).trans (h_new rfl))))
  ·exact (h_old (by rw [setRow_size, World.size_alloc]; omega)).trans (setRow_heap _ _ _ _ _ _ (h_new hg))
  ·exact h_new (by rw [setRow_size, World.size_alloc]; omega)
  ·refine below_alloc (below_setRow (below_alloc ?_ _) (by omega)) _
   exact below_then (below_alloc (Below.refl _ _) _) (by simp) (hb1)
 clear hb1 hg
 have hc0 : 0 ≤ c := Nat.zero_le _
 go_loopw [0] (fun v wr => ∃ x A' c', v = .slice A' (eat l x).2.length c' ∧ 136 * x ≤ l.length ∧ Aside0 (E1 w g l x A' c' wr)) (fun v _ => lenV v)
 case atStart => exact ⟨0, A, c, rfl, by omega, HI⟩
 case round =>
  clear HI
  obtain ⟨x, A1, c1, rfl, hx, HE⟩ := hrel
  have he2 := eat_2 l x
  have hel : (eat l x).2.length = l.length - 136 * x := by rw [he2, List.length_drop]
  obtain ⟨n, hn⟩ : ∃ n, n = (eat l x).2.length := ⟨_, rfl⟩
  rw [← hn] at hel ⊢
  by_cases c4 : 136 ≤ n
  ·have c4b : (136 : Int) ≤ (n : Int) := by omega
   have c4d := decide_eq_true c4b
   have c4e : decide (136 ≤ n) = true := decide_eq_true c4
   have HN := Aside0.mk (⟨he2, hn, hel⟩ : _ ∧ _ ∧ _)
   have hnc : n ≤ c1 := by have := HE.out.hc; omega
   obtain ⟨i5, hi5, -, hs5, -⟩ := i5_ex
   have hcut1 := cut_to 53 5 .i64 hu50 hi5 A1 n c1 136 (by decide) c4b hnc
   have hcut2 := cut_from 53 5 .i64 hu50 hi5 1 hs5 A1 n c1 136 (by decide) c4b
   obtain ⟨A2, hA2⟩ : ∃ A2, A2 = (if c1 = (136 : Int).toNat then A1 else A1.map (·.add ((136 : Int).toNat * 1))) := ⟨_, rfl⟩
   rw [← hA2] at hcut2
   have HA2 := Aside0.mk hA2
   have htl : ((eat l x).2.take 136).length = 136 := by rw [List.length_take]; omega
   have hmx := mix_calls (eat l x).1 turnsL ((eat l x).2.take 136) A1 c1 (g + 1) g (eat_1 l x) turnsL_ok.1 turnsL_ok.2 (by omega) (fun b hb => HS.out.2.2 b (List.mem_of_mem_drop (by rw [← he2]; exact List.mem_of_mem_take hb))) (by omega) wr
    (Words.below HS.out.1 HE.out.hb) HE.out.h4 HE.out.h3 (Kd.C_below (Kd.C_take HE.out.hr (by omega)) HE.out.hb)
    (fun ad e hp => by
     obtain ⟨ad', e', hx0⟩ := C_u8 HE.out.hr 0 (by omega)
     rw [e] at e'
     obtain rfl := Option.some.inj e'
     have := World.block_lt_of_cell? w _ hx0
     rw [add_block] at this
     omega)
   rw [htl] at hmx
   have HMX := Aside0.mk hmx
   clear he2 hn hel hA2 hi5 hs5 htl hmx
   go_wp2_with (go_at_call 81; (refine HMX.out.mono ?_); rintro e w2 ⟨rfl, h4, ht⟩)
   obtain ⟨he2, hn, hel⟩ := HN.out
   have hl2 : (eat l (x + 1)).2.length = n - 136 := by rw [eat_s2, List.length_drop, ← hn]
   refine ⟨⟨x + 1, A2, c1 - 136, by rw [hl2], by omega, ⟨⟨by rw [hl2]; omega, ?_, ?_, ?_, by rw [eat_s1]; exact h4, ?_⟩⟩⟩, by show n - 136 < n; omega⟩
   ·have h := Kd.C_drop (m := 136) (c := c1) HE.out.hr (by omega) HE.out.hc
    rw [show (136 * (Kd.int IntKind.u8).sz) = 136 from Nat.mul_one 136] at h
    rw [eat_s2, HA2.out, show (136 : Int).toNat = 136 from rfl, Nat.mul_one]
    exact h
   ·exact (ht.same _ (Array.getElem?_eq_some_iff.1 HE.out.hN).1 (by omega)).trans HE.out.hN
   ·exact (ht.same _ (Array.getElem?_eq_some_iff.1 HE.out.h3).1 (by omega)).trans HE.out.h3
   ·exact HE.out.hb.trans (ht.below HE.out.hb.size (by omega))
  ·have c4b : ¬ (136 : Int) ≤ (n : Int) := by omega
   have c4d := decide_eq_false c4b
   have c4e : decide (136 ≤ n) = false := decide_eq_false c4
   have hxl : x = l.length / 136 := by omega
   obtain ⟨rs, hrs⟩ : ∃ r, r = (eat l x).2 := ⟨_, rfl⟩
   obtain ⟨st, hst⟩ : ∃ r, r = (eat l x).1 := ⟨_, rfl⟩
   have hsl : st.length = 25 := by rw [hst, eat_1]
   rw [← hrs] at hn
   have HN := Aside0.mk (⟨hxl, hrs, hst, hn⟩ : _ ∧ _ ∧ _ ∧ _)
   have HH : Aside0 (n ≤ c1 ∧ Kd.C (Kd.int .u8) w A1 n rs ∧ wr.heap[w.heap.size]? = some (.cells (encI (List.replicate 32 0)) 30 (0, 0)) ∧ wr.heap[g]? = some (.cells (encN turnsL) 128 (0, 0)) ∧ wr.heap[g + 1]? = some (.cells (enc st) 131 (0, 0)) ∧ Below w.heap.size w wr) := by
    rw [hst, hn, hrs]
    exact ⟨HE.out.hc, HE.out.hr, HE.out.hN, HE.out.h3, HE.out.h4, HE.out.hb⟩
   have c4f : n < 136 := by omega
   clear c4 hxl hrs hst hn he2 hel HE
   generalize wr = wq at HH ⊢
   obtain ⟨i5, hi5, hz5, hs5, hy5⟩ := i5_ex
   obtain ⟨Z, hZ⟩ : ∃ Z : List Int, Z = List.replicate 136 0 := ⟨_, rfl⟩
   have hmk : ∀ W, (Instr.makeSlice 53 (.int .i64 136) (.int .i64 136)).run Tryz.prog W = .ok (.slice (some ⟨W.heap.size, 0, none⟩) 136 136) (W.alloc (.cells (encI Z) 5)) := fun W => by
    have h := run_make (P := Tryz.prog) W 53 5 i5 (.int .u8 0) hu50 hi5 hz5 .i64 .i64 136 136 (by decide) (by decide) (by rw [hy5]; decide) (by decide)
    rw [h, hs5, hZ, made136]
    rfl
   obtain ⟨ge, hge⟩ : ∃ ge, ge = wq.heap.size := ⟨_, rfl⟩
   have HGE : Aside0 (ge = wq.heap.size ∧ g + 1 < ge) := ⟨hge, by rw [hge]; exact (Array.getElem?_eq_some_iff.1 HH.out.2.2.2.2.1).1⟩
   have hsizeq : wq.heap.size = ge := hge.symm
   have HZ := Aside0.mk hZ
   clear hi5 hz5 hs5 hy5 hge hZ
   have HMK := Aside0.mk hmk
   clear hmk
   have hOnce : True := trivial
   have hTwice : True := trivial
   obtain ⟨D, hD⟩ : ∃ D, D = rs ++ List.replicate (136 - n) 0 := ⟨_, rfl⟩
   have hDl : D.length = 136 := by rw [hD, List.length_append, List.length_replicate, ← HN.out.2.2.2]; omega
   obtain ⟨v, hv⟩ : ∃ v, v = (D.set n 6).getD 135 0 := ⟨_, rfl⟩
   have hE : endL rs = (D.set n 6).set 135 ((v + 128) % 256) := by
    unfold endL; rw [hv, hD, HN.out.2.2.2]
   have HD := Aside0.mk (⟨hD, hv, hE⟩ : _ ∧ _ ∧ _)
   clear hD hv hE
   go_wp2_with (first
    | ((with_reducible refine gate_dst (N := 20) rfl ?_); go_loud (refine wpList_make rfl 53 _ _ rfl (.int .i64 136) (.int .i64 136) _ rfl rfl _ (HMK.out _) ?_); rw [← HGE.out.1])
    | ((with_reducible refine gate_dst (N := 23) rfl ?_); go_loud (refine wpList_copy_splice rfl (.tmp 21) (.tmp 22) 53 53 rfl 5 hu50 (by kernel_rfl) (some ⟨ge, 0, none⟩) A1 136 136 n c1 rfl rfl ge 0 (Z.map (Value.int .u8)) 5 ?g0 (rs.map (Value.int .u8)) ?g1 ?g2 ?g3 ?g4 ge _ (Below.refl _ _) (Nat.le_refl _) ?_); (case g0 => exact h_new HGE.out.1); (case g1 => rw [List.length_map, ← HN.out.2.2.2]; exact (Nat.min_eq_left (by omega)).symm); (case g2 => exact fun hp => ⟨rfl, C_src (Kd.C_below (Kd.C_below HH.out.2.1 HH.out.2.2.2.2.2) (below_alloc (Below.refl _ _) _)) (by rw [List.length_map] at hp; have := HN.out.2.2.2; omega)⟩); (case g3 => rw [List.length_map, List.length_map, ← HN.out.2.2.2, HZ.out, List.length_replicate]; omega); (case g4 => exact one_u8 _); intro w3 hg3 hb3; (rw [show splice (List.map (Value.int IntKind.u8) Z) 0 (List.map (Value.int IntKind.u8) rs) = D.map (Value.int .u8) by rw [HD.out.1, HZ.out, splice_z, ← HN.out.2.2.2]] at hg3); (have hg3' : w3.heap[ge]? = some (.cells (encI D) 5 (0, 0)) := hg3); (have hcn := cell_encI (i := n) hg3' (by omega)); (have hfn := frozen_of_row w3 ge n _ 5 hg3'); (have HG3 := Aside0.mk (⟨hg3', hb3⟩ : _ ∧ _)); clear hg3 hg3' hb3)
    | ((with_reducible refine gate_dst (N := 30) rfl ?_); clear hOnce; go_loud ((have hg4 := heap_set_encI (i := n) 6 HG3.out.1); (have hs4 := size_sc w3 ⟨ge, n, none⟩ (.int .u8 6)); (have hb4 := (HG3.out.2).setCell (p := ⟨ge, n, none⟩) (Nat.le_refl _) (.int .u8 6)); (generalize w3.setCell ⟨ge, n, none⟩ (.int .u8 6) = w4 at hg4 hb4 hs4 ⊢); (have hc4 := cell_encI (i := 135) hg4 (by rw [List.length_set]; omega)); (have hf4 := frozen_of_row w4 ge 135 _ 5 hg4); (rw [← HD.out.2.1] at hc4); (have HG4 := Aside0.mk (⟨hg4, hb4⟩ : _ ∧ _)); clear hg4 hb4 hs4 hcn hfn))
    | ((with_reducible refine gate_dst (N := 35) rfl ?_); clear hTwice; go_loud (have hg5 := heap_set_encI (i := 135) ((v + 128) % 256) HG4.out.1; (rw [← HD.out.2.2] at hg5); (have hb5 := (HG4.out.2).setCell (p := ⟨ge, 135, none⟩) (Nat.le_refl _) (.int .u8 ((v + 128) % 256))); (generalize w4.setCell ⟨ge, 135, none⟩ (.int .u8 ((v + 128) % 256)) = w5 at hg5 hb5 ⊢); (have hk5 : ∀ k, k < ge → w5.heap[k]? = wq.heap[k]? := fun k hk => (hb5.block k hk).trans (h_old (by have := HGE.out.1; omega))); (have hb5' : Below w.heap.size w w5 := HH.out.2.2.2.2.2.trans (Below.mono (Below.trans (below_alloc (Below.refl wq.heap.size wq) (.cells (encI Z) 5)) (by rw [HGE.out.1] at hb5; exact hb5)) HH.out.2.2.2.2.2.size)); (have HMX5 := Aside0.mk (end_call l rs st w w5 g ge HS.out.1 hb5' hsl (by have := HN.out.2.2.2; omega) (fun b hb => HS.out.2.2 b (by have h2 := HN.out.2.1; rw [eat_2] at h2; rw [h2] at hb; exact List.mem_of_mem_drop hb)) hg5 ((hk5 _ (by have := HGE.out.2; omega)).trans HH.out.2.2.2.1) ((hk5 _ HGE.out.2).trans HH.out.2.2.2.2.1) HGE.out.2)); (have H5 := Aside0.mk (⟨(hk5 _ (by have := HGE.out.2; omega)).trans HH.out.2.2.1, hb5'⟩ : _ ∧ _)); clear hg5 hb5 hb5' hk5 hc4 hf4))
    | (go_at_call 81; (refine HMX5.out.mono ?_); rintro e w6 ⟨rfl, h6, t6⟩))
   have hN6 := (t6.same _ (Array.getElem?_eq_some_iff.1 H5.out.1).1 (by omega)).trans H5.out.1
   have hb6 := H5.out.2.trans (t6.below H5.out.2.size (by omega))
   obtain ⟨S, hS⟩ : ∃ S, S = mixL st turnsL (endL rs) := ⟨_, rfl⟩
   have hSl : S.length = 25 := by rw [hS, mixL_len, hsl]
   have hsum : sumL l = outF S 32 := by unfold sumL lastL; rw [hS, HN.out.2.1, HN.out.2.2.1, HN.out.1]
   rw [← hS] at h6
   have hlt6 := (Array.getElem?_eq_some_iff.1 h6).1
   have H6 := Aside0.mk (⟨hN6, hb6, h6, hsum, hlt6⟩ : _ ∧ _ ∧ _ ∧ _ ∧ _)
   clear hN6 hb6 h6 hsum hlt6 t6 HMX5 H5 HG4 HG3 HD HZ HH HN HMK hS
   obtain ⟨go, hgo⟩ : ∃ go, go = w6.heap.size := ⟨_, rfl⟩
   rw [← hgo]
   have H7 : Aside0 (OutAt w w6 go (g + 1) S 0 (w6.alloc (.cells (encI (List.replicate 32 0)) 30))) :=
    ⟨⟨h_new hgo, (h_old (by have := H6.out.2.2.2.2; omega)).trans H6.out.2.2.1, (h_old (by have := (Array.getElem?_eq_some_iff.1 H6.out.1).1; omega)).trans H6.out.1, below_alloc H6.out.2.1 _⟩⟩
   have HG := Aside0.mk (⟨H6.out.2.2.2.1, by have := H6.out.2.2.2.2; omega, by have := H6.out.2.1.size; omega⟩ : sumL l = outF S 32 ∧ g + 1 < go ∧ w.heap.size ≤ go)
   clear hgo H6 HGE
   go_loopw [36] (fun i wr => ∃ x : Nat, i = .int .i64 (x : Int) ∧ x ≤ 32 ∧ Aside0 (OutAt w w6 go (g + 1) S x wr)) (fun i _ => 32 - (intOf i).toNat)
   case atStart => exact ⟨0, rfl, by omega, H7⟩
   case round =>
    clear H7
    obtain ⟨x, rfl, hx1, HR⟩ := hrel
    by_cases c5 : x < 32
    ·have c5b : (x : Int) < 32 := by omega
     have c5c := eq_true c5b
     obtain ⟨x8, hx8⟩ : ∃ n, n = x / 8 := ⟨_, rfl⟩
     obtain ⟨m8, hm8⟩ : ∃ n, n = x % 8 := ⟨_, rfl⟩
     obtain ⟨s8, hs8⟩ : ∃ n, n = 8 * m8 := ⟨_, rfl⟩
     obtain ⟨p, hp⟩ : ∃ p, p = S.getD x8 0 := ⟨_, rfl⟩
     obtain ⟨z, hz⟩ : ∃ z, z = p >>> s8 := ⟨_, rfl⟩
     have K1 : (x : Int) / 8 = x8 := by omega
     have K2 : (x : Int) % 8 = m8 := by omega
     have K3 : 8 * (m8 : Int) = s8 := by omega
     have k1 : (x8 : Int) < 25 := by omega
     have k2 : (m8 : Int) < 8 := by omega
     have k3 : (s8 : Int) ≤ 64 := by omega
     have K4 : (p.toNat : Int) / 2 ^ s8 = (z.toNat : Int) := by rw [shr_w, hz]
     have hc0 := cell_enc (i := x8) HR.out.h4 (by omega)
     rw [← hp] at hc0
     have hc1 := cell_encI (i := x) HR.out.ho (by rw [outF_len]; omega)
     have hf1 := frozen_of_row wr go x _ 30 HR.out.ho
     have HQ := Aside0.mk (⟨hx8, hm8, hs8, hp, hz⟩ : _ ∧ _ ∧ _ ∧ _ ∧ _)
     clear hx8 hm8 hs8 hp hz
     go_wp2
     refine ⟨⟨x + 1, by simp, by omega, ⟨⟨?_, ?_, ?_, ?_⟩⟩⟩, by simp [intOf]; omega⟩
     ·rw [show outF S (x + 1) = (outF S x).set x ((z.toNat : Int) % 256) by
       obtain ⟨g1, g2, g3, g4, g5⟩ := HQ.out
       rw [g5, g4, g3, g2, g1]; rfl]
      exact heap_set_encI (i := x) _ HR.out.ho
     ·exact (heap_setCell_other _ _ _ _ (by show _ ≠ go; have := HG.out.2.1; omega)).trans HR.out.h4
     ·exact (heap_setCell_other _ _ _ _ (by show _ ≠ go; have := HG.out.2.1; omega)).trans HR.out.hN
     ·exact below_set HR.out.hb HG.out.2.2
    ·obtain rfl : x = 32 := by omega
     obtain ⟨T, hT⟩ : ∃ T, T = outF S 32 := ⟨_, rfl⟩
     have hTl : T.length = 32 := by rw [hT, outF_len]
     have ho := HR.out.ho
     rw [← hT] at ho
     have HT := Aside0.mk (⟨ho, hT⟩ : _ ∧ _)
     clear ho hT
     go_wp2_with (first
      | ((with_reducible refine gate_dst (N := 51) rfl ?_); go_loud (refine wpList_load_row rfl 30 (.tmp 7) rfl go rfl 30 (encI T) (0, 0) (.array 32 5) ?g0 hu27 rfl ?g1 ?_); (case g0 => exact HT.out.1); (case g1 => rw [encI_size, hTl]; kernel_rfl))
      | ((with_reducible refine gate_store (t := 30) rfl ?_); go_loud (refine wpList_store_row rfl 30 (.tmp 2) (.tmp 51) rfl w.heap.size (encI T) rfl rfl 30 (encI (List.replicate 32 0)) HR.out.hN ?g3 ?g4 (encI_one _) ?_); (case g3 => rw [encI_size, hTl]; kernel_rfl); (case g4 => rw [encI_size, encI_size, hTl]; rfl)))
     refine bodyPost_ret (v := .agg (encI T)) ?_ rfl ⟨by rw [HG.out.1, HT.out.2], below_setRow HR.out.hb (Nat.le_refl _)⟩
     exact results_cell_row rfl _ _ w.heap.size 30 _ (0, 0) _ rfl (setRow_heap _ _ _ _ _ _ HR.out.hN) hu27 rfl (by rw [encI_size, hTl]; kernel_rfl)
end Go.Proofs.YtanabbjakacgbaaGreatDoor.Sp
namespace Go.Proofs.YtanabbjakacgbaaGreatDoor.Sp
open Go.RowKit Go.Proofs.YtanabbjakacgbaaGreatDoorW.PrintWords Go.Proofs.YtanabbjakacgbaaGreatDoorW.PrintLast Go.Proofs.YtanabbjakacgbaaGreatDoorW.PrintMore
set_option linter.unusedVariables false
set_option linter.unusedSimpArgs false
theorem left_calls (x : W) (n : Nat) (hn : n < 64) (w : World) :
  Calls Tryz.prog 74 #[.int .i64 (n : Int), U x] w fun e w' => e = .returned (U (rotl x n)) ∧ ∃ m, w' = w.drewN m := by
 have h64 : (n : Int) ≤ 64 := by omega
 have h64' : 0 ≤ (64 : Int) - n := by omega
 have h65 : (64 : Int) - n ≤ 64 := by omega
 have hw := eq_true h64'
 have K1 := shl_w x n
 have K2 : (x.toNat : Int) / 2 ^ (64 - n) = ((x >>> (64 - n)).toNat : Int) := shr_w x (64 - n)
 have HK := Aside0.mk (⟨K1, K2⟩ : _ ∧ _)
 clear K1 K2
 go_enter Tryz.func74, Tryz.ntmps74
 go_wp2
 go_quiet (fail)
 go_wp2
 go_ret
 refine ⟨?_, _, rfl⟩
 show Ending.returned (.int .u64 _) = _
 rw [HK.out.1, HK.out.2, bits_o]
 rfl
theorem left1_calls (x : W) (w : World) :
  Calls Tryz.prog 74 #[.int .i64 1, U x] w fun e w' => e = .returned (U (rotl x 1)) ∧ ∃ m, w' = w.drewN m := left_calls x 1 (by decide) w
theorem wpList_built {P : Program} {w : World} {ops : Array Oper} {rest : List Oper} {o : Oper} {a : Act} {Q : Exit → Act → World → Prop} (hg : o.guard = none) (t : TypeId) (parts : Array (Nat × Operand)) (ho : o.op = .build t parts) (cells : Array Value)
  (hf : P.built t (parts.map fun (i, x) => (i, a.eval x)).toList = some cells) (h : wpList P ops Q rest (a.put o.dst (.agg cells)) w) : wpList P ops Q (o :: rest) a w :=
 wpList_build hg t parts ho (by rw [hf]; rfl) (by rw [hf]; exact h)
theorem wpList_built0 {P : Program} {w : World} {ops : Array Oper} {rest : List Oper} {o : Oper} {a : Act} {Q : Exit → Act → World → Prop} (hg : o.guard = none) (t : TypeId) (ho : o.op = .build t #[]) (cells : Array Value)
  (hf : P.built t [] = some cells) (h : wpList P ops Q rest (a.put o.dst (.agg cells)) w) : wpList P ops Q (o :: rest) a w :=
 wpList_built hg t #[] ho cells (by simpa using hf) h
set_option maxRecDepth 100000 in
theorem words_calls (w : World) : Calls Tryz.prog 47 #[] w fun e w' => e = .returned (.agg (enc wordsW)) ∧ Below w.heap.size w w' := by
 have hu118 := Tryz.underlying95
 go_enter Tryz.func47, Tryz.ntmps47
 go_wp2_with (first
  | ((with_reducible refine gate_dst (N := 1) rfl ?_); go_loud (refine wpList_built rfl 95 _ rfl (enc wordsW) (by kernel_rfl) ?_))
  | ((with_reducible refine gate_store (t := 95) rfl ?_); go_loud (refine wpList_store_row rfl 95 (.tmp 0) (.tmp 1) rfl w.heap.size (enc wordsW) rfl rfl 95 (enc (List.replicate 24 0)) (h_new rfl) (by rw [enc_size]; kernel_rfl) (by kernel_rfl) (enc_one _) ?_)))
 refine bodyPost_ret (v := .agg (enc wordsW)) ?_ rfl ⟨rfl, below_setRow (below_alloc (Below.refl _ _) _) (Nat.le_refl _)⟩
 exact results_cell_row rfl _ _ w.heap.size 95 _ (0, 0) _ rfl (setRow_heap _ _ _ _ _ _ (h_new rfl)) hu118 rfl (by rw [enc_size]; kernel_rfl)
end Go.Proofs.YtanabbjakacgbaaGreatDoor.Sp
namespace Go.Proofs.YtanabbjakacgbaaGreatDoor.QTail
open Go
section
variable {P : Program} {ops : Array Oper} {md : Region.Mode} {C : World → Prop}
def headQ (P : Program) (md : Region.Mode) (ops : Array Oper) (C : World → Prop) (n : Nat) (L : Array Bool → Act → Prop) : Nat → Array Bool → Act → Prop
 | 0, done, a => L done a
 | f + 1, done, a => Region.ready md ops done ≠ [] ∧ ∀ i ∈ Region.ready md ops done, i < n ∧ qOp P ops C i (headQ P md ops C n L f (done.setIfInBounds i true)) a
theorem any_of_headQ {n g : Nat} {L : Array Bool → Act → Prop} {Q : Exit → Act → World → Prop} (hL : ∀ done a w, C w → L done a → wpAny P md ops Q g done a w) :
  ∀ (f : Nat) (done : Array Bool) (a : Act) (w : World), C w → headQ P md ops C n L f done a → wpAny P md ops Q (f + g) done a w := by
 intro f
 induction f with
 | zero => intro done a w hw h; rw [Nat.zero_add]; exact hL _ _ _ hw h
 | succ f ih =>
  intro done a w hw h
  rw [show f + 1 + g = (f + g) + 1 by omega]
  exact ⟨fun h0 => absurd h0 h.1, fun i hi => wpOp_of_qOp hw (fun a' w' hw' h' => ih _ a' w' hw' h') (h.2 i hi).2⟩
theorem headQ_first {n i : Nat} {o : Oper} {v : Value} {L : Array Bool → Act → Prop} (ho : ops[i]? = some o) (hsel : ∀ (j : Nat) (q : Oper) cs b, ops[j]? = some q → q.op ≠ .select cs b)
  (hs : Region.sinkB md ops n = true) (hc : Region.chainB md ops n = true) (hn : n < ops.size) (hin : i < n)
  (hend : ∀ done a, L done a → ∀ j ∈ Region.ready md ops done, n ≤ j) :
  ∀ (f : Nat) (done : Array Bool) (a : Act), HeadInv md ops n done →
   (∀ j oj, ops[j]? = some oj → j ≠ i → done.getD j true = false → (∀ e ∈ oj.after, Region.binds md e = true → e.on ≠ i) → o.apart ops oj = true) →
   i ∈ Region.ready md ops done → YieldsIn P ops C o v a →
   headQ P md ops C n L f (done.setIfInBounds i true) (a.put o.dst v) → headQ P md ops C n L (f + 1) done a := by
 intro f
 induction f with
 | zero =>
  intro done a inv _ hr hy H
  refine ⟨fun h => (by rw [h] at hr; cases hr), fun j hj => ?_⟩
  have hjn : j < n := Nat.lt_of_not_le fun h => tail_waits hs hc hn inv _ i rfl hin (mem_ready.1 hr).1 j h hj
  refine ⟨hjn, ?_⟩
  by_cases hji : j = i
  ·subst hji; exact hy.qOp ho H
  ·exact absurd (hend _ _ H j (ready_mono hj hji)) (by omega)
 | succ f ih =>
  intro done a inv hfree hr hy H
  have hun := (mem_ready.1 hr).1
  refine ⟨fun h => (by rw [h] at hr; cases hr), fun j hj => ?_⟩
  have hjn : j < n := Nat.lt_of_not_le fun h => tail_waits hs hc hn inv _ i rfl hin hun j h hj
  refine ⟨hjn, ?_⟩
  by_cases hji : j = i
  ·subst hji; exact hy.qOp ho H
  ·obtain ⟨hjun, oj, hoj, hall⟩ := mem_ready.1 hj
   have hnot : ∀ e ∈ oj.after, Region.binds md e = true → e.on ≠ i := by
    intro e he hb heq
    have := hall e he hb
    rw [heq, getD_both hun] at this
    cases this
   have h2 := qOp_put hoj (hfree j oj hoj hji hjun hnot) (fun cs b => hsel i o cs b ho) (fun cs b => hsel j oj cs b hoj) hy (H.2 j (ready_mono hj hji)).2
   refine qOp_mono (fun a' h3 => ih (done.setIfInBounds j true) a' (inv.set hj hjn) ?_ (ready_mono hr (Ne.symm hji)) h3.1 ?_) h2
   ·intro k ok hk hki hku hno
    refine hfree k ok hk hki ?_ hno
    by_cases hjk : j = k
    ·subst hjk; exact hjun
    ·rwa [getD_set_ne true hjk] at hku
   ·rw [Array.setIfInBounds_comm _ _ hji]
    exact h3.2
theorem headQ_lex {n g : Nat} {R : Act → Prop} (hsel : Region.noSelect ops = true) (hs : Region.sinkB md ops n = true) (hc : Region.chainB md ops n = true) (hn : n < ops.size) :
  ∀ (l : List Oper) (k : Nat) (done : Array Bool) (a : Act), (∀ j, j < l.length → l[j]? = ops[k + j]?) → k + l.length = n → HeadInv md ops n done →
  Region.lexHead md ops g l.length k done = true → wpQuiet P ops C R l a →
  headQ P md ops C n (fun done' a' => Region.seqB md ops g n done' = true ∧ R a') l.length done a := by
 intro l
 induction l with
 | nil =>
  intro k done a _ hk _ hB h
  obtain rfl : k = n := by simpa using hk
  exact ⟨by simpa [Region.lexHead] using hB, h⟩
 | cons o l ih =>
  intro k done a hl hk inv hB h
  have h0 : ops[k]? = some o := by simpa using (hl 0 (by simp)).symm
  simp only [List.length_cons, Region.lexHead, Bool.and_eq_true] at hB
  obtain ⟨⟨hr, hf⟩, hB'⟩ := hB
  have hkn : k < n := by simp only [List.length_cons] at hk; omega
  have hr' : k ∈ Region.ready md ops done := by simpa using hr
  have hq : qOp P ops C k (wpQuiet P ops C R l) a := by unfold qOp; simp only [h0]; exact h
  obtain ⟨v, hy, hK⟩ := yieldsIn_of_qOp h0 hq
  exact headQ_first h0 (Region.noSelect_spec hsel) hs hc hn hkn (fun done' a' hL => seqB_ready hL.1) l.length done a inv (Region.free_spec h0 hf) hr' hy
   (ih (k + 1) _ _ (fun j hj => by have := hl (j + 1) (by simp; omega); simpa [Nat.add_assoc, Nat.add_comm 1 j] using this) (by simp only [List.length_cons] at hk; omega) (inv.set hr' hkn) hB' hK)
theorem region_qtailC {id : Nat} {Q : Exit → Act → World → Prop} {a : Act} {w : World} {l : List Oper} (n : Nat) (hm : P.follows .mixedOrders = true) (hB : Region.lexTailB .any l.toArray n = true)
  (h : wpQuiet P l.toArray (fun w' => ∃ m, w' = w.drewN m) (fun a' => ∀ w', (∃ m, w' = w.drewN m) → wpList P l.toArray Q (l.drop n) a' w') (l.take n) a) : (Code.region id l.toArray true).wp P Q a w := by
 simp only [Region.lexTailB, Bool.and_eq_true, decide_eq_true_eq] at hB
 obtain ⟨⟨⟨⟨hsel, hn⟩, hs⟩, hc⟩, hlex⟩ := hB
 have hn' : n < l.length := by simpa using hn
 have htl : (l.take n).length = n := by simp; omega
 have inv0 : HeadInv .any l.toArray n (Array.replicate l.toArray.size false) :=
  ⟨by simp, fun j oj _ hl => (by rw [getD_replicate_false] at hl; cases hl), fun t _ ht => getD_in (by simpa using ht) (getD_replicate_false _ _)⟩
 have H := headQ_lex (md := .any) (g := l.toArray.size - n) hsel hs hc hn (l.take n) 0 _ a (fun j hj => by
  have hj' : j < n := by rw [htl] at hj; exact hj
  simp [hj']) (by simpa using htl) inv0 (by rw [htl]; exact hlex) h
 refine wp_region_any hm ?_
 have := any_of_headQ (Q := Q) (g := l.toArray.size - n) (fun done a' w' hw' hL => by
  have hs2 := wpAny_of_seq (P := P) (md := .any) (ops := l.toArray) (Q' := Q) (l.drop n) n done a' w' (fun j => by simp) (by rw [show (l.drop n).length = l.toArray.size - n by simp]; exact hL.1) (hL.2 w' hw')
  rwa [show (l.drop n).length = l.toArray.size - n by simp] at hs2) _ _ _ { w with drawn := w.drawn + 1 } ⟨1, rfl⟩ H
 rw [htl] at this
 rwa [show n + (l.toArray.size - n) = l.toArray.size by simp; omega] at this
end
end Go.Proofs.YtanabbjakacgbaaGreatDoor.QTail

