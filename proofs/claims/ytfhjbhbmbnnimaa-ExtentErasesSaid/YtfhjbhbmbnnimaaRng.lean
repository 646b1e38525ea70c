/- A range over a function whose iterator keeps state in cells of its own: what an iterator gives (Gives), and the law of the loop (rangeOver). No program is named. -/
import Derived.RangeFuncNested
import Derived.RangeFuncBound
import Derived.RangeFuncCalls
import Derived.RangeFuncLeaves
import Derived.WalkKit
import Derived.OwnWalkIn
import Derived.TacticsInMore
import Derived.LoopNIn
import Derived.LoopIn
import Derived.Deep.Draws
namespace Go.Proofs.Ytfhjbhbmbnnimaa.Rng
open Go.RowKit

/-- A step: the blocks of T may be written anew; new blocks. -/
structure Turns (T : Nat → Prop) (W W' : World) : Prop where
 os : W'.os = W.os
 tape : W'.tape = W.tape
 output : W'.output = W.output
 size : W.heap.size ≤ W'.heap.size
 same : ∀ k, k < W.heap.size → ¬ T k → W'.heap[k]? = W.heap[k]?

section
variable {T T' : Nat → Prop} {A B C : World}
theorem Turns.refl (T : Nat → Prop) (W : World) : Turns T W W := ⟨rfl, rfl, rfl, Nat.le_refl _, fun _ _ _ => rfl⟩
theorem Turns.trans (h : Turns T A B) (k : Turns T B C) : Turns T A C :=
 ⟨k.os.trans h.os, k.tape.trans h.tape, k.output.trans h.output, Nat.le_trans h.size k.size, fun i hi ht => (k.same i (Nat.lt_of_lt_of_le hi h.size) ht).trans (h.same i hi ht)⟩
theorem Turns.mono (h : Turns T A B) (hT : ∀ k, T k → T' k) : Turns T' A B := ⟨h.os, h.tape, h.output, h.size, fun i hi ht => h.same i hi (fun hk => ht (hT i hk))⟩
theorem Turns.alloc (T : Nat → Prop) (W : World) (o : Obj) : Turns T W (W.alloc o) := ⟨rfl, rfl, rfl, by simp, fun k hk _ => Below.heap_alloc W o k hk⟩
theorem Turns.drew (T : Nat → Prop) (W : World) : Turns T W W.drew := ⟨rfl, rfl, rfl, Nat.le_refl _, fun _ _ _ => rfl⟩
theorem Turns.drewN (T : Nat → Prop) (W : World) (n : Nat) : Turns T W (W.drewN n) := ⟨rfl, rfl, rfl, Nat.le_refl _, fun _ _ _ => rfl⟩
theorem size_setCell (W : World) (p : Addr) (u : Value) : (W.setCell p u).heap.size = W.heap.size := by
 show (W.heap.modify _ _).size = _
 rw [Array.size_modify]
theorem Turns.setCell {p : Addr} (hp : T p.block) (W : World) (u : Value) : Turns T W (W.setCell p u) :=
 ⟨rfl, rfl, rfl, by rw [size_setCell]; exact Nat.le_refl _, fun k _ ht => Below.heap_setCell W p u k (fun e => ht (by rw [e]; exact hp))⟩
theorem Turns.putObj {l : Nat} (hl : T l) (W : World) (o : Obj) : Turns T W (W.putObj l o) :=
 ⟨rfl, rfl, rfl, by simp, fun k _ ht => World.putObj_heap_other (fun e => ht (by rw [e]; exact hl))⟩
theorem Turns.grown {row : Option Nat} (h : A.grownBy B row) (hr : ∀ k, row = some k → T k) : Turns T A B :=
 ⟨h.os, h.tape, h.output, h.size, fun k hk ht => h.block k hk (fun e => ht (hr k e.symm))⟩
theorem Turns.of_below {b : Nat} (h : Below b A B) (hb : A.heap.size ≤ b) : Turns T A B := ⟨h.os, h.tape, h.output, h.size, fun k hk _ => h.block k (Nat.lt_of_lt_of_le hk hb)⟩
theorem Turns.below {b : Nat} (h : Turns T A B) (hT : ∀ k, T k → b ≤ k) (hb : b ≤ A.heap.size) : Below b A B := ⟨h.os, h.tape, h.output, h.size, fun k hk => h.same k (Nat.lt_of_lt_of_le hk hb) (fun ht => by have := hT k ht; omega)⟩
theorem Turns.cell (h : Turns T A B) {p : Addr} (hp : p.block < A.heap.size) (ht : ¬ T p.block) : B.cell? p = A.cell? p := World.cell?_of_block (w := A) (h.same _ hp ht)
theorem Turns.boxed (h : Turns T A B) {b : Nat} {t : TypeId} {v : Value} (hb : Boxed A b t v) (ht : ¬ T b) : Boxed B b t v := (h.same b hb.lt ht).trans hb
end

variable {F : Fence} {n : Nat} {P : Program}

/-- THE ITERATOR gives xs: whatever loop, whatever invariant J of the caller's that abides the iterator's steps (T: the blocks that it writes), the rounds carrying J on and leaving S (the blocks that it leans on) as they are. -/
def Gives (F : Fence) (n : Nat) (P : Program) (g : Nat) (lb : Array Value) {α : Type} (encs : α → Array Value) (S T : Nat → Prop) (xs : List α) (Post : World → Prop) (w : World) : Prop :=
 ∀ (l : Nat) (J : Nat → World → Prop) (W : World), (∀ k, S k → W.heap[k]? = w.heap[k]?) → w.heap.size ≤ W.heap.size →
  (∀ i A B, J i A → Turns T A B → J i B) →
  (∀ i x W1, xs[i]? = some x → J i W1 → YieldAt F (n - 1) P l (encs x) W1 fun e W' =>
   e = .returned (.bool true) ∧ J (i + 1) W' ∧ W1.heap.size ≤ W'.heap.size ∧ ∀ k, S k → W'.heap[k]? = W1.heap[k]?) →
  J 0 W → CallsIn F n P g (#[.func (.yield l) #[] #[]] ++ lb) W fun e W' => (∃ v, e = .returned v) ∧ J xs.length W' ∧ Post W'

theorem Gives.later {g : Nat} {lb : Array Value} {α : Type} {encs : α → Array Value} {S T : Nat → Prop} {xs : List α} {Post : World → Prop} {w w' : World}
  (h : Gives F n P g lb encs S T xs Post w) (hs : ∀ k, S k → w'.heap[k]? = w.heap[k]?) (hz : w.heap.size ≤ w'.heap.size) : Gives F n P g lb encs S T xs Post w' :=
 fun l J W hW hsz hJ hY h0 => h l J W (fun k hk => (hW k hk).trans (hs k hk)) (Nat.le_trans hz hsz) hJ hY h0

/-- What the law itself, and the iterator, may do between two rounds. -/
def Aside (T : Nat → Prop) (b : Nat) (A B : World) : Prop := Turns (fun k => T k ∨ (b ≤ k ∧ ∃ o, A.heap[k]? = some o ∧ o.isCells = false)) A B

theorem Aside.of_turns {T : Nat → Prop} {b : Nat} {A B : World} (h : Turns T A B) : Aside T b A B := h.mono (fun _ hk => .inl hk)
theorem Aside.putObj {T : Nat → Prop} {b l : Nat} {W : World} {o : Obj} (o' : Obj) (hl : W.heap[l]? = some o) (hb : b ≤ l) (ho : o.isCells = false) : Aside T b W (W.putObj l o') :=
 Turns.putObj (T := fun k => T k ∨ (b ≤ k ∧ ∃ o, W.heap[k]? = some o ∧ o.isCells = false)) (.inr ⟨hb, o, hl, ho⟩) W o'

/-- THE LOOP 'for .. := range g { body }' at an iterator that gives xs: each round goes on. -/
theorem rangeOver {g : Operand} {ps : Array Tmp} {assign body : Code} {Q : Exit → Act → World → Prop} {a : Act} {w : World}
  (hro : F.round = none) (h1 : 1 ≤ n) {gf : Nat} {lb : Array Value} (hg : a.eval g = .func (.func gf) #[] lb) (hFg : F.fn gf) (eg : ∀ args w, (callFunc gf args).run P w = .ok (.enter gf args) w)
  {α : Type} {encs : α → Array Value} {S T : Nat → Prop} {xs : List α} {Post : World → Prop} (hseq : Gives F (n - 1) P gf lb encs S T xs Post w)
  (hS : ∀ k, S k → k < w.heap.size) (hT : ∀ k, T k → k < w.heap.size) (hps : ∀ x, (encs x).size = ps.size)
  (I : Nat → World → Prop) (hI : ∀ i A B, I i A → Aside T w.heap.size A B → I i B) (h0 : I 0 w)
  (Ax : α → Act → World → Prop) (hAx : ∀ x a' A B, Ax x a' A → Aside T w.heap.size A B → Ax x a' B)
  (hassign : ∀ (l i : Nat) (x : α) (W : World) (K : Act → World → Prop), xs[i]? = some x → I i W → w.heap.size ≤ W.heap.size →
   (∀ a' W', KeepsFrom w.heap.size W W' → (∀ k, S k → W'.heap[k]? = W.heap[k]?) → I i W' → Ax x a' W' → K a' W') →
   assign.wpIn (F.inRound l) (n - 1 - 1) P (Exit.then K (fun _ _ _ => False)) { tmps := (ps.zip (encs x)).foldl (fun t (p, v) => t.setIfInBounds p v) a.tmps, defers := [] } W)
  (hbody : ∀ (l i : Nat) (x : α) (a' : Act) (W : World), w.heap.size ≤ l → (∃ r, W.heap[l]? = some (.loop r)) → xs[i]? = some x → I i W → Ax x a' W → w.heap.size ≤ W.heap.size →
   body.wpIn (F.inRound l) (n - 1 - 1) P (fun e _ W' => e = .normal ∧ KeepsFrom w.heap.size W W' ∧ (∀ k, S k → W'.heap[k]? = W.heap[k]?) ∧ I (i + 1) W') a' W)
  (hdone : ∀ (D : Nat) (W W' : World), w.heap.size ≤ D → Post W → Aside (fun _ => False) w.heap.size W W' → I xs.length W' → w.heap.size ≤ W'.heap.size → W'.heap[D]? = some (.deferred (some [])) → Q .normal { a with defers := { target := .collected D, args := #[] } :: a.defers } W') :
  (Code.rangeFunc g ps assign body).wpIn F n P Q a w := by
 refine wpIn_rangeFunc ?_
 intro fn hfn
 rw [hro]
 obtain ⟨rec, hrec⟩ : ∃ rec : LoopState → Option Code → Loop, rec = fun st pe => { state := st, pending := pe, fn, tmps := a.tmps, params := ps, assign, body, defers := w.heap.size } := ⟨_, rfl⟩
 obtain ⟨W1, hW1⟩ : ∃ W1, (w.alloc (.deferred (some []))).alloc (.loop (rec .ready none)) = W1 := ⟨_, rfl⟩
 have hL1 : W1.heap[w.heap.size + 1]? = some (.loop (rec .ready none)) := by
  rw [← hW1]; have := World.alloc_heap_new (w.alloc (.deferred (some []))) (.loop (rec .ready none)); rwa [World.size_alloc] at this
 have hK1 : W1.heap[w.heap.size]? = some (.deferred (some [])) := by
  rw [← hW1]; exact (Below.heap_alloc _ _ _ (by simp)).trans (World.alloc_heap_new w _)
 have hT1 : Turns (fun _ => False) w W1 := by rw [← hW1]; exact (Turns.alloc _ w _).trans (Turns.alloc _ _ _)
 have hI1 : I 0 W1 := hI 0 w W1 h0 (hT1.mono (fun _ h => h.elim))
 refine ⟨w.heap.size + 1, [{ target := .collected w.heap.size, args := #[] }], W1, { target := .fn (.func gf) lb, args := #[.func (.yield (w.heap.size + 1)) #[] #[]] }, W1, gf,
  #[.func (.yield (w.heap.size + 1)) #[] #[]] ++ lb, W1, ?_, ?_, ?_, ?_, fun _ => h1, ?_⟩
 ·rw [← hW1, hrec]; exact run_enterLoop_outer _ _ _ _ _
 ·simp only [resolve, hg]
  simp [go_sem]
 ·intro f' hf'; simp [Target.leads] at hf'; subst hf'; exact hFg
 ·simp [invoke, go_sem, eg]
 ·refine (hseq (w.heap.size + 1)
   (fun i W => I i W ∧ w.heap.size + 1 < W.heap.size ∧ W.heap[w.heap.size + 1]? = some (.loop (rec .ready none)) ∧ W.heap[w.heap.size]? = some (.deferred (some [])))
   W1 (fun k hk => hT1.same k (hS k hk) (fun h => h)) hT1.size ?_ ?_ ⟨hI1, (Array.getElem?_eq_some_iff.1 hL1).1, hL1, hK1⟩).mono ?_
  ·rintro i A B ⟨hi, hz, hl, hk⟩ ht
   exact ⟨hI i A B hi (Aside.of_turns ht), Nat.lt_of_lt_of_le hz ht.size, (ht.same _ hz (fun h => by have := hT _ h; omega)).trans hl, (ht.same _ (by omega) (fun h => by have := hT _ h; omega)).trans hk⟩
  ·-- one round
   rintro i x W hx ⟨hi, hz, hl, hk⟩
   have hy := run_yield (P := P) (args := encs x) hl (by rw [hrec]; exact hps x)
   rw [hrec] at hy
   refine ⟨fn, _, assign, body, hy, roundIn_of_wpIn hfn (hassign _ i x W _ hx hi (by omega) ?_)⟩
   clear hy
   intro a' Wa hka hsa hia hax
   have hla := hka.same _ _ (by omega) hl rfl
   have hda := hka.same _ _ (Nat.le_refl _) hk rfl
   have hza : w.heap.size + 1 < Wa.heap.size := (Array.getElem?_eq_some_iff.1 hla).1
   refine ⟨_, run_beginRound hla (by rw [hrec]), ?_⟩
   have hl2 : (Wa.putObj (w.heap.size + 1) (.loop { rec .ready none with state := .busy })).heap[w.heap.size + 1]? = some (.loop { rec .ready none with state := .busy }) := World.putObj_heap_same hza
   have hd2 : (Wa.putObj (w.heap.size + 1) (.loop { rec .ready none with state := .busy })).heap[w.heap.size]? = some (.deferred (some [])) := (World.putObj_heap_other (by omega)).trans hda
   have hp2 : Aside T w.heap.size Wa (Wa.putObj (w.heap.size + 1) (.loop { rec .ready none with state := .busy })) := Aside.putObj _ hla (by omega) rfl
   refine wpIn_mono (hbody _ i x a' _ (by omega) ⟨_, hl2⟩ hx (hI _ _ _ hia hp2) (hAx _ _ _ _ hax hp2) (by simp; omega)) ?_
   rintro e a3 W3 ⟨rfl, hk3, hs3, hi3⟩
   have hl3 := hk3.same _ _ (by omega) hl2 rfl
   have hd3 := hk3.same _ _ (Nat.le_refl _) hd2 rfl
   have hz3 : w.heap.size + 1 < W3.heap.size := (Array.getElem?_eq_some_iff.1 hl3).1
   have hr := run_endRound (P := P) none hl3
   rw [hrec] at hr
   refine ⟨_, _, hr, rfl, ⟨hI _ _ _ hi3 (Aside.putObj _ hl3 (by omega) rfl), by simp; omega, ?_, (World.putObj_heap_other (by omega)).trans hd3⟩, ?_, ?_⟩
   ·rw [hrec]; exact World.putObj_heap_same hz3
   ·have h2 := hka.size; have h3 := hk3.size
    rw [World.putObj_size] at h3 ⊢; omega
   ·intro k hk'
    have hlt := hS k hk'
    rw [World.putObj_heap_other (by omega), hs3 k hk', World.putObj_heap_other (by omega), hsa k hk']
  ·-- behind the iterator
   rintro e W2 ⟨⟨v, rfl⟩, ⟨hi, hz, hl, hk⟩, hP⟩
   refine ⟨none, _, by have := run_endLoop (P := P) hl (by rw [hrec]; simp); rw [hrec] at this; exact this, hdone _ W2 _ (Nat.le_refl _) hP (Aside.putObj _ hl (by omega) rfl) (hI _ _ _ hi (Aside.putObj _ hl (by omega) rfl)) (by simp; omega) ((World.putObj_heap_other (by omega)).trans hk)⟩

end Go.Proofs.Ytfhjbhbmbnnimaa.Rng
