/- Plain Lean functions with the answers of the Go functions that these laws reach, and proofs that the calls come to them; written by this session's program. -/
import Derived.Test.YtfhjbhbmbnnimaaPEx0
import Derived.Test.YtfhjbhbmbnnimaaPEx2
import Derived.Test.YtfhjbhbmbnnimaaPEx3
import Derived.Test.YtfhjbhbmbnnimaaPEx4
namespace Go.Proofs.Ytfhjbhbmbnnimaa.PE
open Go.RowKit Go.Proofs.YtfhjbhbmbnnimaaW.PrintWords Go.Proofs.YtfhjbhbmbnnimaaW.PrintLast Go.Proofs.YtfhjbhbmbnnimaaW.PrintMore
attribute [local go_sem] max2_int min2_int max_two min_two max_three min_three max_four min_four   -- for this text's walks alone
set_option linter.unusedVariables false
set_option linter.unusedSimpArgs false

attribute [local go_sem high] eqA58
/-! ### extent_Part: function 13, by hand -/
section
open Go.RowKit Go.Shelf Go.Proofs.YtfhjbhbmbnnimaaW.PrintWords Go.Proofs.YtfhjbhbmbnnimaaW.PrintLast Go.Proofs.YtfhjbhbmbnnimaaW.PrintMore Go.Proofs.Ytfhjbhbmbnnimaa.Rng
attribute [local go_sem] Oper.semAt_some

theorem Turns.ofNew {T : Nat → Prop} {A B : World} (h : Turns (fun k => T k ∨ A.heap.size ≤ k) A B) : Turns T A B :=
 ⟨h.os, h.tape, h.output, h.size, fun k hk ht => h.same k hk (fun e => e.elim ht (fun e => by omega))⟩
/-- The world at which the walk stands gets a name. -/
theorem at_named {F : Fence} {n : Nat} {P : Program} {o : Oper} {a : Act} {next : Act → World → Prop} {Q : Exit → Act → World → Prop} {s : Sem Next} {W : World} (h : ∀ W1, W1 = W → o.uponIn F n P a next Q (s.run P W1)) : o.uponIn F n P a next Q (s.run P W) := h W rfl

/-- The greater, the lesser of two numbers. -/
def mx (x y : Int) : Int := if x < y then y else x
def mn (x y : Int) : Int := if y < x then y else x
theorem mx_eq (x y : Int) : mx x y = max x y := by unfold mx; omega
theorem mn_eq (x y : Int) : mn x y = min x y := by unfold mn; omega
theorem max2_mx (k k' : IntKind) (x y : Int) : Builtin.max2 (.int k x) (.int k' y) = pure (.int k (mx x y)) := by simp only [Builtin.max2, gt_iff_lt, mx]
theorem min2_mn (k k' : IntKind) (x y : Int) : Builtin.min2 (.int k x) (.int k' y) = pure (.int k (mn x y)) := by simp only [Builtin.min2, mn]
attribute [local go_sem high] max2_mx min2_mn

/-- The pieces of the bytes from lo on, before hi. -/
def betw : List S58 → Int → Int → List S58
 | [], _, _ => []
 | p :: b, lo, hi =>
  if wrap64 (mn p.f2 hi - mx 0 lo) ≤ 0 then betw b (wrap64 (lo - p.f2)) (wrap64 (hi - p.f2))
  else ⟨p.f0, if p.f0 > 0 then wrap64 (p.f1 + mx 0 lo) else p.f1, wrap64 (mn p.f2 hi - mx 0 lo)⟩ :: betw b (wrap64 (lo - p.f2)) (wrap64 (hi - p.f2))

theorem betw_cons (p : S58) (b : List S58) (lo hi : Int) : betw (p :: b) lo hi =
  if wrap64 (mn p.f2 hi - mx 0 lo) ≤ 0 then betw b (wrap64 (lo - p.f2)) (wrap64 (hi - p.f2))
  else ⟨p.f0, if p.f0 > 0 then wrap64 (p.f1 + mx 0 lo) else p.f1, wrap64 (mn p.f2 hi - mx 0 lo)⟩ :: betw b (wrap64 (lo - p.f2)) (wrap64 (hi - p.f2)) := rfl

def encP (p : S58) : Array Value := #[.agg #[.int .i64 p.f0, .int .i64 p.f1, .int .i64 p.f2]]

theorem drop_stepI {α : Type} (l : List α) (z : α) (i : Int) (h0 : 0 ≤ i) (h1 : i < (l.length : Int)) : l.drop i.toNat = l.getD i.toNat z :: l.drop (i + 1).toNat := by
 have hl : i.toNat < l.length := by omega
 rw [List.drop_eq_getElem_cons hl, show (i + 1).toNat = i.toNat + 1 by omega, List.getD_eq_getElem?_getD, List.getElem?_eq_getElem hl]
 rfl

set_option maxHeartbeats 8000000 in
set_option maxRecDepth 100000 in
theorem between_gives (F : Fence) (n : Nat) (hf : F.fn 52) (hro : F.round = none) (hn : 1 ≤ n) (gb gl gh : Nat) (A0 : Option Addr) (c0 : Nat) (b : List S58) (lo hi : Int) (w0 w : World)
  (h1 : w0.heap.size ≤ gb) (h2 : w0.heap.size ≤ gl) (h3 : w0.heap.size ≤ gh) (hbl : gb ≠ gl) (hbh : gb ≠ gh) (hlh : gl ≠ gh)
  (hB : ∀ k, k < w0.heap.size → w.heap[k]? = w0.heap[k]?) (hr : Kd.C k58 w0 A0 b.length b) (hc : b.length ≤ c0)
  (hxb : w.cell? ⟨gb, 0, none⟩ = some (.slice A0 b.length c0)) (hxl : Boxed w gl 3 (.int .i64 lo)) (hxh : Boxed w gh 3 (.int .i64 hi)) :
  Gives F n Try.prog 52 #[.pointer (some ⟨gb, 0, none⟩), .pointer (some ⟨gl, 0, none⟩), .pointer (some ⟨gh, 0, none⟩)] encP (fun k => k < w0.heap.size ∨ k = gb ∨ k = gl ∨ k = gh) (fun k => k = gl ∨ k = gh) (betw b lo hi) (fun _ => True) w := by
 intro l J W hS hsz hJ hY h0
 obtain ⟨ffn, fdp, fal, frd⟩ := F
 obtain rfl : frd = none := hro
 replace hro : Fence.round ⟨ffn, fdp, fal, none⟩ = none := rfl
 have hu58 := Try.underlying58
 have hmax : b.length ≤ 9223372036854775807 := hr.2.1
 have HR := Aside0.mk hr
 clear hr
 have hxbW := (World.cell?_of_block (w := w) (a := ⟨gb, 0, none⟩) (hS gb (.inr (.inl rfl)))).trans hxb
 have hxlW : Boxed W gl 3 (.int .i64 lo) := (hS gl (.inr (.inr (.inl rfl)))).trans hxl
 have hxhW : Boxed W gh 3 (.int .i64 hi) := (hS gh (.inr (.inr (.inr rfl)))).trans hxh
 refine callsIn_of_wp Try.func52 rfl hf ?_ hro
 simp only [Try.ntmps52, List.size_toArray, List.length_cons, List.length_nil, Nat.reduceAdd, Nat.reduceSub, Array.replicate_succ, Array.replicate_zero, List.push_toArray, List.append_toArray, List.nil_append, List.cons_append]
 gi_wp2
 gi_loopw [11] (fun i wr => ∃ (x : Int) (u : Nat) (lo' hi' : Int), i = .int .i64 x ∧ 0 ≤ x ∧ x ≤ (b.length : Int) ∧ (betw b lo hi).drop u = betw (b.drop x.toNat) lo' hi' ∧ u ≤ (betw b lo hi).length ∧ Boxed wr gl 3 (.int .i64 lo') ∧ Boxed wr gh 3 (.int .i64 hi') ∧ (∀ k, k < w0.heap.size → wr.heap[k]? = w0.heap[k]?) ∧ J u wr) (fun i _ => b.length - (intOf i).toNat)
 case atStart => exact ⟨0, 0, lo, hi, rfl, by omega, by omega, rfl, by omega, hxlW, hxhW, fun k hk => (hS k (.inl hk)).trans (hB k hk), h0⟩
 case round =>
  obtain ⟨x, u, lo', hi', rfl, hx0, hx1, hd, hu, hl', hh', hsm, hJu⟩ := hrel
  by_cases c4 : x < (b.length : Int)
  ·rw [show b.drop x.toNat = rd_T58 b x :: b.drop (x + 1).toNat from drop_stepI b z58 x hx0 c4] at hd
   replace hd := hd.trans (betw_cons _ _ _ _)
   obtain ⟨ad, e1, hx_0, hx_1, hx_2⟩ := at_T58 HR.out x hx0 c4
   cases e1
   replace hx_0 := (World.cell?_of_block (hsm _ (World.block_lt_of_cell? _ _ hx_0))).trans hx_0
   replace hx_1 := (World.cell?_of_block (hsm _ (World.block_lt_of_cell? _ _ hx_1))).trans hx_1
   replace hx_2 := (World.cell?_of_block (hsm _ (World.block_lt_of_cell? _ _ hx_2))).trans hx_2
   have c4b := decide_eq_true c4
   have hx0b := eq_true hx0
   have c4c := eq_true c4
   have HD := Aside0.mk hd
   have HU := Aside0.mk hu
   have HS := Aside0.mk hsm
   clear hd hu hsm
   have hlh' : gh ≠ gl := Ne.symm hlh
   have hgll : gl < wr.heap.size := hl'.lt
   have hghl : gh < wr.heap.size := hh'.lt
   have hcl := hl'.cell
   have hch := hh'.cell
   have hfl := hl'.frozen
   have hfh := hh'.frozen
   have HL := Aside0.mk hl'
   have HH := Aside0.mk hh'
   clear hl' hh'
   have hgln : gl ≠ wr.heap.size := by omega
   have hghn : gh ≠ wr.heap.size := by omega
   gi_wp2
   all_goals
    gi_region
    gi_wp2
    case roundEnd =>
     have hd := HD.out
     rw [if_pos (by omega)] at hd
     refine ⟨⟨x + 1, u, wrap64 (lo' - (rd_T58 b x).f2), wrap64 (hi' - (rd_T58 b x).f2), rfl, by omega, by omega, hd, HU.out, ?_, ?_, fun k hk => (Turns.same (T := fun k => k = gl ∨ k = gh) (W := wr) (Turns.ofNew (by repeat (first | exact Turns.refl _ _ | refine Turns.trans ?_ (Turns.drew _ _) | refine Turns.trans ?_ (Turns.drewN _ _ _) | refine Turns.trans ?_ (Turns.alloc _ _ _) | refine Turns.trans ?_ (Turns.setCell (by first | exact .inl (.inl rfl) | exact .inl (.inr rfl) | (refine .inr ?_; simp)) _ _)))) k (by omega) (by omega)).trans (HS.out k hk), hJ u wr _ hJu (Turns.ofNew (by repeat (first | exact Turns.refl _ _ | refine Turns.trans ?_ (Turns.drew _ _) | refine Turns.trans ?_ (Turns.drewN _ _ _) | refine Turns.trans ?_ (Turns.alloc _ _ _) | refine Turns.trans ?_ (Turns.setCell (by first | exact .inl (.inl rfl) | exact .inl (.inr rfl) | (refine .inr ?_; simp)) _ _))))⟩, ?_⟩
     ·repeat (first | exact HL.out | refine Boxed.set (v := .int .i64 lo') _ ?_ | refine Boxed.other ?_ hlh _ | refine Boxed.other ?_ hlh' _ | refine Boxed.other ?_ hgln _ | refine Boxed.other ?_ hghn _ | refine Boxed.alloc ?_ _ | (show Boxed (World.drew _) _ _ _; refine (show Boxed _ _ _ _ from ?_ : Boxed (World.drew _) _ _ _)))
     ·repeat (first | exact HH.out | refine Boxed.set (v := .int .i64 hi') _ ?_ | refine Boxed.other ?_ hlh _ | refine Boxed.other ?_ hlh' _ | refine Boxed.other ?_ hgln _ | refine Boxed.other ?_ hghn _ | refine Boxed.alloc ?_ _ | (show Boxed (World.drew _) _ _ _; refine (show Boxed _ _ _ _ from ?_ : Boxed (World.drew _) _ _ _)))
     ·simp [intOf]; omega
    all_goals
     refine at_named (fun W1 hW1 => ?_)
     have hT : Turns (fun k => k = gl ∨ k = gh) wr W1 := by
      refine Turns.ofNew ?_
      rw [hW1]
      repeat (first | exact Turns.refl _ _ | refine Turns.trans ?_ (Turns.drew _ _) | refine Turns.trans ?_ (Turns.drewN _ _ _) | refine Turns.trans ?_ (Turns.alloc _ _ _) | refine Turns.trans ?_ (Turns.setCell (by first | exact .inl (.inl rfl) | exact .inl (.inr rfl) | (refine .inr ?_; simp)) _ _))
     have hsz1 := hT.size
     have hL1 : Boxed W1 gl 3 (.int .i64 (wrap64 (lo' - (rd_T58 b x).f2))) := by
      rw [hW1]
      repeat (first | exact HL.out | refine Boxed.set (v := .int .i64 lo') _ ?_ | refine Boxed.other ?_ hlh _ | refine Boxed.other ?_ hlh' _ | refine Boxed.other ?_ hgln _ | refine Boxed.other ?_ hghn _ | refine Boxed.alloc ?_ _ | (show Boxed (World.drew _) _ _ _; refine (show Boxed _ _ _ _ from ?_ : Boxed (World.drew _) _ _ _)))
     have hH1 : Boxed W1 gh 3 (.int .i64 (wrap64 (hi' - (rd_T58 b x).f2))) := by
      rw [hW1]
      repeat (first | exact HH.out | refine Boxed.set (v := .int .i64 hi') _ ?_ | refine Boxed.other ?_ hlh _ | refine Boxed.other ?_ hlh' _ | refine Boxed.other ?_ hgln _ | refine Boxed.other ?_ hghn _ | refine Boxed.alloc ?_ _ | (show Boxed (World.drew _) _ _ _; refine (show Boxed _ _ _ _ from ?_ : Boxed (World.drew _) _ _ _)))
     have hJ1 : J u W1 := hJ u wr W1 hJu hT
     have hd := HD.out
     rw [if_neg (by omega)] at hd
     (first | rw [if_pos (by assumption)] at hd | rw [if_neg (by omega)] at hd)
     have hu1 : u < (betw b lo hi).length := by
      rcases Nat.lt_or_ge u (betw b lo hi).length with h | h
      ·exact h
      ·rw [List.drop_of_length_le h] at hd; exact absurd hd (by simp)
     have hget := hd
     rw [List.drop_eq_getElem_cons hu1] at hget
     injection hget with hg1 hg2
     obtain ⟨fn, tmps, assign, body, hy, hR⟩ := hY u _ W1 ((List.getElem?_eq_getElem hu1).trans (congrArg some hg1)) hJ1
     dsimp only [encP] at hy
     clear hd
     rw [hy, Oper.uponIn_round]
     refine ⟨fun _ => hn, hR.mono ?_⟩
     rintro e W3 ⟨rfl, hJ3, hsz3, hS3⟩
     gi_wp2
     go_roundw
     case rel => exact ⟨x + 1, u + 1, _, _, rfl, by omega, by omega, hg2, by omega, (hS3 gl (.inr (.inr (.inl rfl)))).trans hL1, (hS3 gh (.inr (.inr (.inr rfl)))).trans hH1, fun k hk => (hS3 k (.inl hk)).trans ((hT.same k (Nat.lt_of_lt_of_le hk (by omega)) (by omega)).trans (HS.out k hk)), hJ3⟩
     case measure => simp [intOf]; omega
  ·have hxe : x = (b.length : Int) := by omega
   have c4b := decide_eq_false c4
   rw [hxe, Int.toNat_natCast, List.drop_length] at hd
   have hue : u = (betw b lo hi).length := by
    have := List.drop_eq_nil_iff.1 (hd.trans rfl)
    omega
   clear hxe
   gi_wp2
   go_end0
   exact ⟨⟨_, rfl⟩, by rw [← hue]; exact hJu⟩

/-- An iterator value over pieces: its function, what it has captured, what it yields, the blocks that it leans on, those that it writes. -/
structure It where
 g : Nat
 lb : Array Value
 xs : List S58
 S : Nat → Prop
 T : Nat → Prop

def joinAll (l : List S58) (xs : List S58) : Option (List S58) := xs.foldlM (fun l p => extent_join.f l p.f0 p.f1 p.f2) l

/-- The world with its first b blocks alone. -/
def trunc (W : World) (b : Nat) : World := { W with heap := W.heap.extract 0 b }
theorem trunc_size {W : World} {b : Nat} (h : b ≤ W.heap.size) : (trunc W b).heap.size = b := by simp [trunc]; omega
theorem trunc_below {W : World} {b : Nat} (h : b ≤ W.heap.size) : Below (trunc W b).heap.size (trunc W b) W := by
 refine ⟨rfl, rfl, rfl, by rw [trunc_size h]; exact h, fun k hk => ?_⟩
 rw [trunc_size h] at hk
 simp only [trunc, Array.getElem?_extract]
 rw [if_pos (by omega), Nat.zero_add]

theorem R_aside {α : Type} {d : Kd α} {e : Nat} {A B : World} {base b : Nat} {ok : Nat → Prop} {v : Value} {xs : List α} {T : Nat → Prop} (h : d.R e A base ok v xs) (hs : Rng.Aside T b A B) (hT : ∀ k, T k → k < base) : d.R e B base ok v xs :=
 Kd.R_mono (Kd.R_move (Kd.R_bound h) (fun k hk => hs.same k hk.2.2.1 (fun h' => h'.elim (fun ht => by have := hT k ht; omega) (fun h2 => by
  obtain ⟨_, o, ho, hc⟩ := h2
  obtain ⟨q, _, cells, hcell⟩ := hk.2.2.2
  rw [hcell] at ho; cases ho; cases hc)))) (fun _ hk => hk.1)

def markOf (D : Nat) : Deferred := { target := .collected D, args := #[] }

theorem leaves_marks {F : Fence} {n : Nat} {P : Program} {fn : Func} {tmps : Array Value} {R : Ending → World → Prop} (b : Nat) : ∀ (DM : List Nat) (w : World), DM.Nodup → (∀ D ∈ DM, b ≤ D ∧ w.heap[D]? = some (.deferred (some []))) →
  (∀ w', (∀ k, ¬ k ∈ DM → w'.heap[k]? = w.heap[k]?) → w'.heap.size = w.heap.size → w'.os = w.os → w'.tape = w.tape → w'.output = w.output → LeavesIn F n P fn tmps R [] .returning w') → LeavesInM F n P fn tmps R (DM.map markOf) .returning w
 | [], w, _, _, h => h w (fun _ _ => rfl) rfl rfl rfl rfl
 | D :: DM, w, hn, hm, h => by
  rw [List.nodup_cons] at hn
  refine ⟨by simp, .inl ⟨D, _, rfl, run_takeDeferred (hm D List.mem_cons_self).2, ?_⟩⟩
  refine leaves_marks b DM _ hn.2 (fun D' hD' => ⟨(hm D' (List.mem_cons_of_mem _ hD')).1, ?_⟩) (fun w' h1 h2 h3 h4 h5 => ?_)
  ·rw [World.putObj_heap_other (fun e => hn.1 (by first | (rw [← e]; exact hD') | (rw [e]; exact hD')))]
   exact (hm D' (List.mem_cons_of_mem _ hD')).2
  ·refine h w' (fun k hk => ?_) (h2.trans (by simp)) h3 h4 h5
   rw [List.mem_cons, not_or] at hk
   rw [h1 k hk.2, World.putObj_heap_other hk.1]

/-- Where body stands: the rows in v, its box B, its marks. -/
structure BodyAt (its : List It) (x : Nat) (w W : World) (v : Value) (l : List S58) (DM : List Nat) : Prop where
 box : Boxed W w.heap.size 24 v
 own : Kd.R k58 58 W w.heap.size (fun k => k ≠ w.heap.size) v l
 turned : Turns (fun k => ∃ it ∈ its, it.T k) w W
 kept : ∀ it ∈ its.drop x, ∀ k, it.S k → W.heap[k]? = w.heap[k]?
 marks : ∀ D ∈ DM, w.heap.size ≤ D ∧ W.heap[D]? = some (.deferred (some []))
 nodup : DM.Nodup

theorem BodyAt.aside {its : List It} {y b : Nat} {w A B : World} {v : Value} {l : List S58} {DM : List Nat} {T : Nat → Prop} (h : BodyAt its y w A v l DM) (hs : Rng.Aside T b A B)
  (hT : ∀ k, T k → k < w.heap.size) (hU : ∀ k, T k → ∃ it ∈ its, it.T k) (hb : w.heap.size ≤ b) (hd : ∀ it ∈ its.drop y, ∀ k, it.S k → k < w.heap.size ∧ ¬ T k) (hD : ∀ D ∈ DM, D < b) : BodyAt its y w B v l DM := by
 have hz : w.heap.size ≤ A.heap.size := h.turned.size
 refine ⟨(hs.same _ h.box.lt ?_).trans h.box, R_aside h.own hs hT, ?_, fun it hit k hk => (hs.same k ?_ ?_).trans (h.kept it hit k hk), fun D hDm => ⟨(h.marks D hDm).1, (hs.same D ?_ ?_).trans (h.marks D hDm).2⟩, h.nodup⟩
 ·rintro (ht | ⟨_, o, ho, hc⟩)
  ·have := hT _ ht; omega
  ·rw [show A.heap[w.heap.size]? = _ from h.box] at ho; cases ho; cases hc
 ·refine ⟨hs.os.trans h.turned.os, hs.tape.trans h.turned.tape, hs.output.trans h.turned.output, Nat.le_trans hz hs.size, fun k hk ht => (hs.same k (by omega) ?_).trans (h.turned.same k hk ht)⟩
  rintro (h1 | ⟨h1, _⟩)
  ·exact ht (hU k h1)
  ·omega
 ·have := (hd it hit k hk).1; omega
 ·rintro (ht | ⟨h1, _⟩)
  ·exact (hd it hit k hk).2 ht
  ·have := (hd it hit k hk).1; omega
 ·exact (Array.getElem?_eq_some_iff.1 (h.marks D hDm).2).1
 ·rintro (ht | ⟨h1, _⟩)
  ·have := hT _ ht; have := (h.marks D hDm).1; omega
  ·have := hD D hDm; omega

set_option maxHeartbeats 8000000 in
set_option maxRecDepth 100000 in
theorem body_calls (its : List It) (q c : Nat) (r : List S58) (w : World) (hc : its.length ≤ c) (hlen : its.length ≤ 1000000)
  (hcells : ∀ i it, its[i]? = some it → w.cell? ⟨q, i, none⟩ = some (.func (.func it.g) #[] it.lb))
  (hqT : ∀ it ∈ its, ¬ it.T q) (hen : ∀ it ∈ its, Enters Try.prog it.g)
  (hg : ∀ it ∈ its, ∀ m, 1 ≤ m → Gives Fence.wide m Try.prog it.g it.lb encP it.S it.T it.xs (fun _ => True) w)
  (hS : ∀ it ∈ its, ∀ k, it.S k → k < w.heap.size) (hT : ∀ it ∈ its, ∀ k, it.T k → k < w.heap.size)
  (hdis : its.Pairwise (fun a b => ∀ k, a.T k → ¬ b.S k)) (h : joinAll [] (its.flatMap (·.xs)) = some r) (hq : its ≠ [] → q < w.heap.size) :
  Calls Try.prog 32 #[.slice (some ⟨q, 0, none⟩) its.length c] w fun e w' => ∃ v, e = .returned v ∧ Kd.R k58 58 w' w.heap.size (fun _ => True) v r ∧ Turns (fun k => ∃ it ∈ its, it.T k) w w' := by
 have hu58 := Try.underlying58
 refine (callsIn_wide (n := 4)).1 ?_
 refine callsIn_of_wp_marks Try.func32 rfl trivial ?_ rfl
 simp only [Try.ntmps32, List.size_toArray, List.length_cons, List.length_nil, Nat.reduceAdd, Nat.reduceSub, Array.replicate_succ, Array.replicate_zero, List.push_toArray, List.append_toArray, List.nil_append, List.cons_append]
 gi_wp2
 refine wpIn_loop_ghost (fun k a W => ∃ (x : Nat) (v : Value) (l : List S58) (DM : List Nat) (u4 u5 u6 u10 u11 u12 u13 u14 u15 u16 u17 u18 u19 : Value),
  k = its.length - x ∧ x ≤ its.length ∧ a = { tmps := #[.slice (some ⟨q, 0, none⟩) its.length c, undef, .slice none 0 0, .pointer (some ⟨w.heap.size, 0, none⟩), u4, u5, u6, .slice (some ⟨q, 0, none⟩) its.length c, .int .i64 its.length, .int .i64 x, u10, u11, u12, u13, u14, u15, u16, u17, u18, u19], defers := DM.map markOf } ∧
  BodyAt its x w W v l DM ∧ joinAll l ((its.drop x).flatMap (·.xs)) = some r) its.length ?start ?round
 case start =>
  refine ⟨0, .slice none 0 0, [], [], _, _, _, _, _, _, _, _, _, _, _, _, _, rfl, by omega, rfl, ⟨Boxed.new w 24 _, Kd.R_nil _ _ _ _ _, Turns.alloc _ _ _, fun it hit k hk => Below.heap_alloc w _ k (hS it (List.mem_of_mem_drop hit) k hk), by simp, by simp⟩, h⟩
 case round =>
  rintro k a W ⟨x, v, l, DM, u4, u5, u6, u10, u11, u12, u13, u14, u15, u16, u17, u18, u19, rfl, hx, rfl, hst, hj⟩
  have hbc := hst.box.cell
  by_cases c4 : x < its.length
  ·obtain ⟨it, hit⟩ : ∃ it, its[x]? = some it := ⟨_, List.getElem?_eq_getElem c4⟩
   have him : it ∈ its := List.mem_of_getElem? hit
   have hql : q < w.heap.size := hq (List.ne_nil_of_mem him)
   have hxc : W.cell? ⟨q, x, none⟩ = some (.func (.func it.g) #[] it.lb) :=
    (hst.turned.cell (p := ⟨q, x, none⟩) hql (fun hx => by obtain ⟨it', h1, h2⟩ := hx; exact hqT it' h1 h2)).trans (hcells x it hit)
   have c4b : decide ((x : Int) < (its.length : Int)) = true := decide_eq_true (by omega)
   have c4c := eq_true (show (x : Int) < (its.length : Int) by omega)
   have hx0 := eq_true (show (0 : Int) ≤ (x : Int) by omega)
   gi_wp2
   have hdr : its.drop x = it :: its.drop (x + 1) := by
    rw [List.drop_eq_getElem_cons c4]
    congr 1
    exact (List.getElem?_eq_some_iff.1 hit).2
   have hgv := hg it him
   have hTw := hT it him
   have hSw := hS it him
   have hzW : w.heap.size ≤ W.heap.size := hst.turned.size
   have hdj : ∀ it' ∈ its.drop (x + 1), ∀ k, it.T k → ¬ it'.S k := by
    have h1 := hdis.sublist (List.drop_sublist x its)
    rw [hdr, List.pairwise_cons] at h1
    exact h1.1
   have hkx : ∀ k, it.S k → W.heap[k]? = w.heap[k]? := hst.kept it (by rw [hdr]; exact List.mem_cons_self)
   have hDW : ∀ D ∈ DM, D < W.heap.size := fun D hD => (Array.getElem?_eq_some_iff.1 (hst.marks D hD).2).1
   refine rangeOver (F := Fence.wide) rfl (by omega) (gf := it.g) (lb := it.lb) rfl trivial (hen it him) (encs := encP) (S := it.S) (T := it.T) (xs := it.xs) (Post := fun _ => True) ((hgv 3 (by omega)).later hkx hzW)
    (fun k hk => Nat.lt_of_lt_of_le (hSw k hk) hzW) (fun k hk => Nat.lt_of_lt_of_le (hTw k hk) hzW) (fun _ => rfl)
    (fun i Wi => ∃ v' l', BodyAt its (x + 1) w Wi v' l' DM ∧ joinAll l' (it.xs.drop i ++ (its.drop (x + 1)).flatMap (·.xs)) = some r)
    ?hI ?h0
    (fun p a' W' => ∃ G u4 u5 u7 u8 u9 u10 u11 u12 u13 u14 u15 u16 u17 u18 u19, w.heap.size < G ∧ W'.heap[G]? = some (.cells #[.int .i64 p.f0, .int .i64 p.f1, .int .i64 p.f2] 58 (0, 0)) ∧
     a' = { tmps := #[.slice (some ⟨q, 0, none⟩) its.length c, undef, .slice none 0 0, .pointer (some ⟨w.heap.size, 0, none⟩), u4, u5, .pointer (some ⟨G, 0, none⟩), u7, u8, u9, u10, u11, u12, u13, u14, u15, u16, u17, u18, u19], defers := [] })
    ?hAx ?hassign ?hbody ?hdone
   case hI =>
    rintro i A B ⟨v', l', h1, h2⟩ hs
    exact ⟨v', l', h1.aside hs hTw (fun k hk => ⟨it, him, hk⟩) hzW (fun it' h3 k h4 => ⟨hS it' (List.mem_of_mem_drop h3) k h4, fun ht => hdj it' h3 k ht h4⟩) hDW, h2⟩
   case h0 =>
    refine ⟨v, l, ⟨hst.box, hst.own, hst.turned, fun it' h3 k hk => hst.kept it' (by rw [hdr]; exact List.mem_cons_of_mem _ h3) k hk, hst.marks, hst.nodup⟩, ?_⟩
    rw [hdr, List.flatMap_cons] at hj
    exact hj
   case hAx =>
    rintro p a' A B ⟨G, u4, u5, u7, u8, u9, u10, u11, u12, u13, u14, u15, u16, u17, u18, u19, hG, hGc, rfl⟩ hs
    refine ⟨G, _, _, _, _, _, _, _, _, _, _, _, _, _, _, _, hG, (hs.same G (Array.getElem?_eq_some_iff.1 hGc).1 ?_).trans hGc, rfl⟩
    rintro (ht | ⟨_, o, ho, hoc⟩)
    ·have := hTw _ ht; omega
    ·rw [hGc] at ho; cases ho; cases hoc
   case hassign =>
    rintro lp i p Wi K hx ⟨v', l', h1, h2⟩ hsz hK
    simp only [encP, List.zip_toArray, List.zip_cons_cons, List.zip_nil_right, List.foldl_toArray', List.foldl_cons, List.foldl_nil]
    gi_wp2
    refine hK _ _ ⟨by simp, fun k o _ ho _ => (Below.heap_alloc Wi _ k (Array.getElem?_eq_some_iff.1 ho).1).trans ho⟩ (fun k hk => Below.heap_alloc Wi _ k (by have := hSw k hk; omega))
     ⟨v', l', h1.aside (Aside.of_turns (T := it.T) (b := W.heap.size) (Turns.alloc _ _ _)) hTw (fun k hk => ⟨it, him, hk⟩) hzW (fun it' h3 k h4 => ⟨hS it' (List.mem_of_mem_drop h3) k h4, fun ht => hdj it' h3 k ht h4⟩) hDW, h2⟩
     ⟨Wi.heap.size, _, _, _, _, _, _, _, _, _, _, _, _, _, _, _, by have := h1.box.lt; omega, heap_alloc_new Wi _, rfl⟩
   case hbody =>
    rintro lp i p a' Wi hlp hloop hx ⟨v', l', h1, h2⟩ ⟨G, u4, u5, u7, u8, u9, u10, u11, u12, u13, u14, u15, u16, u17, u18, u19, hG, hGc, rfl⟩ hsz
    have hil : i < it.xs.length := (List.getElem?_eq_some_iff.1 hx).1
    rw [List.drop_eq_getElem_cons hil, (List.getElem?_eq_some_iff.1 hx).2, List.cons_append] at h2
    unfold joinAll at h2
    rw [List.foldlM_cons] at h2
    obtain ⟨l'', h3, h4⟩ := Option.bind_eq_some_iff.mp h2
    have hbx := h1.box.cell
    have hbf := h1.box.frozen
    have hg0 : Wi.cell? ⟨G, 0, none⟩ = some (.int .i64 p.f0) := by simp [World.cell?, hGc]
    have hg1 : Wi.cell? ⟨G, 1, none⟩ = some (.int .i64 p.f1) := by simp [World.cell?, hGc]
    have hg2 : Wi.cell? ⟨G, 2, none⟩ = some (.int .i64 p.f2) := by simp [World.cell?, hGc]
    have hzi : w.heap.size ≤ Wi.heap.size := h1.turned.size
    have hR := Kd.R_bound h1.own
    clear h2
    gi_wp2
    refine ⟨trivial, (CallsIn.inRound _ (callsIn_wide.2 (extent_join.calls _ v' l' p.f0 p.f1 p.f2 l'' (trunc Wi w.heap.size) Wi (trunc_below hzi) (by rw [trunc_size hzi]; exact hR) h3))).mono ?_⟩
    rintro e w1 ⟨v1, rfl, hr1, hb1, hk1⟩
    rw [trunc_size hzi] at hr1 hb1
    have hkB : w1.heap[w.heap.size]? = Wi.heap[w.heap.size]? := hk1.2 _ h1.box.lt (fun hx => hx.1 rfl)
    have hbx1 : Boxed w1 w.heap.size 24 v' := hkB.trans h1.box
    have hbc1 := hbx1.cell
    have hbf1 := hbx1.frozen
    obtain ⟨A1, c1, rfl, -, -⟩ := Kd.R_reads hr1
    gi_wp2
    have hlow : ∀ k, k < w.heap.size → (w1.setCell ⟨w.heap.size, 0, none⟩ (.slice A1 l''.length c1)).heap[k]? = Wi.heap[k]? := fun k hk =>
     (Below.heap_setCell w1 ⟨w.heap.size, 0, none⟩ _ k (Nat.ne_of_lt hk)).trans (hk1.2 k (Nat.lt_of_lt_of_le hk hzi) (fun hx => by have := hx.2.1; omega))
    have hnon : ∀ (k : Nat) (o : Obj), Wi.heap[k]? = some o → o.isCells = false → (w1.setCell ⟨w.heap.size, 0, none⟩ (.slice A1 l''.length c1)).heap[k]? = some o := fun k o ho hoc => by
     have hkn : k ≠ w.heap.size := by
      rintro rfl
      rw [show Wi.heap[w.heap.size]? = _ from h1.box] at ho
      cases ho; cases hoc
     refine (Below.heap_setCell w1 ⟨w.heap.size, 0, none⟩ _ k hkn).trans ((hk1.2 k (Array.getElem?_eq_some_iff.1 ho).1 (fun hx => ?_)).trans ho)
     obtain ⟨_, _, _, q', _, cells, hcl⟩ := hx
     rw [hcl] at ho
     cases ho; cases hoc
    refine ⟨⟨by rw [size_setCell]; exact hk1.1, fun k o _ ho hoc => hnon k o ho hoc⟩, fun k hk => hlow k (hSw k hk), _, l'', ⟨Boxed.set _ hbx1, ?_, ?_, fun it' h5 k hk => (hlow k (hS it' (List.mem_of_mem_drop h5) k hk)).trans (h1.kept it' h5 k hk), fun D hD => ⟨(h1.marks D hD).1, hnon D _ (h1.marks D hD).2 rfl⟩, h1.nodup⟩, h4⟩
    ·refine Kd.R_step (Kd.R_mono hr1 (ok' := fun k => k ≠ w.heap.size) ?_) (fun k hk _ => Below.heap_setCell w1 ⟨w.heap.size, 0, none⟩ _ k hk)
     rintro k (hk | hk)
     ·exact hk.1
     ·have := h1.box.lt; omega
    ·exact ⟨hb1.os.trans h1.turned.os, hb1.tape.trans h1.turned.tape, hb1.output.trans h1.turned.output, by rw [size_setCell]; exact Nat.le_trans hzi hk1.1, fun k hk ht => (hlow k hk).trans (h1.turned.same k hk ht)⟩
   case hdone =>
    rintro D Wd W' hD _ hsA ⟨v', l', h1, h2⟩ hsz hDd
    rw [List.drop_length, List.nil_append] at h2
    gi_wp2
    refine ⟨its.length - (x + 1), by omega, x + 1, v', l', D :: DM, _, _, _, _, _, _, _, _, _, _, _, _, _, rfl, by omega, rfl, ⟨h1.box, h1.own, h1.turned, h1.kept, fun D' hD' => ?_, ?_⟩, h2⟩
    ·rcases List.mem_cons.1 hD' with rfl | h3
     ·exact ⟨Nat.le_trans hzW hD, hDd⟩
     ·exact h1.marks D' h3
    ·exact List.nodup_cons.2 ⟨fun h3 => by have := hDW D h3; omega, h1.nodup⟩
  ·have hxe : x = its.length := by omega
   have c4b : decide ((x : Int) < (its.length : Int)) = false := decide_eq_false (by omega)
   rw [hxe, List.drop_length] at hj
   have hlr : l = r := Option.some.inj hj
   clear hj
   gi_wp2
   have hnm : ∀ k o, W.heap[k]? = some o → o.isCells = true → k ∉ DM := fun k o ho hoc hk => by
    have := (hst.marks k hk).2
    rw [ho] at this
    cases this; cases hoc
   refine leaves_marks w.heap.size DM W hst.nodup hst.marks (fun w' hk hz ho ht hou => ⟨_, results_tmp rfl _ _ _, v, rfl, ?_, ?_⟩)
   ·rw [← hlr]
    refine Kd.R_mono (Kd.R_move (Kd.R_bound hst.own) (fun k hk' => ?_)) (fun _ _ => trivial)
    obtain ⟨_, _, _, q', _, cells, hcl⟩ := hk'
    exact hk k (hnm k _ hcl rfl)
   ·exact ⟨ho.trans hst.turned.os, ht.trans hst.turned.tape, hou.trans hst.turned.output, by rw [hz]; exact hst.turned.size, fun k hk1 hk2 => (hk k (fun h3 => by have := (hst.marks k h3).1; omega)).trans (hst.turned.same k hk1 hk2)⟩

set_option maxHeartbeats 8000000 in
set_option maxRecDepth 100000 in
theorem one_gives (F : Fence) (n : Nat) (hf : F.fn 74) (hro : F.round = none) (hn : 1 ≤ n) (gs ga : Nat) (p : S58) (w : World)
  (hxs : w.cell? ⟨gs, 0, none⟩ = some (.slice (some ⟨ga, 0, none⟩) 1 1)) (hx : w.heap[ga]? = some (.cells #[.int .i64 p.f0, .int .i64 p.f1, .int .i64 p.f2] 58 (0, 0))) :
  Gives F n Try.prog 74 #[.pointer (some ⟨gs, 0, none⟩)] encP (fun k => k = gs ∨ k = ga) (fun _ => False) [p] (fun _ => True) w := by
 intro l J W hS hsz hJ hY h0
 have hu58 := Try.underlying58
 have hxW := (World.cell?_of_block (w := w) (a := ⟨gs, 0, none⟩) (hS gs (.inl rfl))).trans hxs
 have hpW := (hS ga (.inr rfl)).trans hx
 refine callsIn_of_wp Try.func74 rfl hf ?_ hro
 simp only [Try.ntmps74, List.size_toArray, List.length_cons, List.length_nil, Nat.reduceAdd, Nat.reduceSub, Array.replicate_succ, Array.replicate_zero, List.push_toArray, List.append_toArray, List.nil_append, List.cons_append]
 gi_wp2
 gi_loopw [7] (fun i wr => ∃ (x : Nat), i = .int .i64 x ∧ x ≤ 1 ∧ J x wr ∧ (x = 0 → wr.heap[ga]? = some (.cells #[.int .i64 p.f0, .int .i64 p.f1, .int .i64 p.f2] 58 (0, 0)))) (fun i _ => 1 - (intOf i).toNat)
 case atStart => exact ⟨0, rfl, by omega, h0, fun _ => hpW⟩
 case round =>
  obtain ⟨x, rfl, hx1, hJx, hcw⟩ := hrel
  by_cases c4 : x = 0
  ·subst c4
   have hpc := hcw rfl
   have hg0 : wr.cell? ⟨ga, 0, none⟩ = some (.int .i64 p.f0) := by simp [World.cell?, hpc]
   have hg1 : wr.cell? ⟨ga, 1, none⟩ = some (.int .i64 p.f1) := by simp [World.cell?, hpc]
   have hg2 : wr.cell? ⟨ga, 2, none⟩ = some (.int .i64 p.f2) := by simp [World.cell?, hpc]
   gi_wp2
   refine at_named (fun W1 hW1 => ?_)
   have hT : Turns (fun _ => False) wr W1 := by rw [hW1]; exact Turns.alloc _ _ _
   have hJ1 : J 0 W1 := hJ 0 wr W1 hJx hT
   obtain ⟨fn, tmps, assign, body, hy, hR⟩ := hY 0 p W1 rfl hJ1
   dsimp only [encP] at hy
   rw [hy, Oper.uponIn_round]
   refine ⟨fun _ => hn, hR.mono ?_⟩
   rintro e W3 ⟨rfl, hJ3, hsz3, hS3⟩
   gi_wp2
   go_roundw
   case rel => exact ⟨1, rfl, by omega, hJ3, fun h => absurd h (by decide)⟩
   case measure => simp [intOf]
  ·have hx2 : x = 1 := by omega
   subst hx2
   gi_wp2
   go_end0
   exact ⟨⟨_, rfl⟩, hJx, trivial⟩

/-- piece(p): an iterator over p alone, in blocks of its own. -/
theorem piece_calls (p : S58) (w : World) :
  Calls Try.prog 53 #[.agg #[.int .i64 p.f0, .int .i64 p.f1, .int .i64 p.f2]] w fun e w' => ∃ gs ga, e = .returned (.func (.func 74) #[] #[.pointer (some ⟨gs, 0, none⟩)]) ∧ Below w.heap.size w w' ∧ w.heap.size ≤ gs ∧ w.heap.size ≤ ga ∧
   w'.cell? ⟨gs, 0, none⟩ = some (.slice (some ⟨ga, 0, none⟩) 1 1) ∧ w'.heap[ga]? = some (.cells #[.int .i64 p.f0, .int .i64 p.f1, .int .i64 p.f2] 58 (0, 0)) := by
 have hu58 := Try.underlying58
 have hu24 := Try.underlying24
 go_enter Try.func53, Try.ntmps53
 go_wp2
 go_ret
 refine ⟨w.heap.size + 1 + 1, w.heap.size + 1, rfl, ?_, by omega, by omega, ?_, ?_⟩
 ·exact below_alloc (below_alloc (below_alloc (Below.refl _ _) _) _) _
 ·have h2 := (Boxed.new ((w.alloc (.cells #[.int .i64 p.f0, .int .i64 p.f1, .int .i64 p.f2] 58)).alloc (.cells #[.int .i64 p.f0, .int .i64 p.f1, .int .i64 p.f2] 58)) 24 (.slice (some ⟨w.heap.size + 1, 0, none⟩) 1 1)).cell
  rw [World.size_alloc, World.size_alloc] at h2
  exact h2
 ·have h1 : ∀ (W : World) (o o' : Obj), ((W.alloc o).alloc o').heap[W.heap.size]? = some o := fun W o o' => (Below.heap_alloc _ o' _ (by rw [World.size_alloc]; omega)).trans (heap_alloc_new W o)
  have h2 := h1 (w.alloc (.cells #[.int .i64 p.f0, .int .i64 p.f1, .int .i64 p.f2] 58)) (.cells #[.int .i64 p.f0, .int .i64 p.f1, .int .i64 p.f2] 58) (.cells #[.slice (some ⟨w.heap.size + 1, 0, none⟩) 1 1] 24)
  rw [World.size_alloc] at h2
  exact h2

set_option maxHeartbeats 8000000 in
set_option maxRecDepth 100000 in
theorem between_calls (A0 : Option Addr) (c0 n : Nat) (lo hi : Int) (w : World) :
  Calls Try.prog 33 #[.slice A0 n c0, .int .i64 lo, .int .i64 hi] w fun e w' => ∃ gb, w.heap.size ≤ gb ∧ e = .returned (.func (.func 52) #[] #[.pointer (some ⟨gb, 0, none⟩), .pointer (some ⟨gb + 1, 0, none⟩), .pointer (some ⟨gb + 2, 0, none⟩)]) ∧ Below w.heap.size w w' ∧
   w'.cell? ⟨gb, 0, none⟩ = some (.slice A0 n c0) ∧ Boxed w' (gb + 1) 3 (.int .i64 lo) ∧ Boxed w' (gb + 2) 3 (.int .i64 hi) := by
 go_enter Try.func33, Try.ntmps33
 go_wp2
 go_ret
 refine ⟨w.heap.size, Nat.le_refl _, rfl, below_alloc (below_alloc (below_alloc (Below.refl _ _) _) _) _, ?_, ?_, ?_⟩
 ·exact (((Boxed.new w 24 (.slice A0 n c0)).alloc _).alloc _).cell
 ·have h2 := (Boxed.new (w.alloc (.cells #[.slice A0 n c0] 24)) 3 (.int .i64 lo)).alloc (.cells #[.int .i64 hi] 3)
  rw [World.size_alloc] at h2
  exact h2
 ·have h2 := Boxed.new ((w.alloc (.cells #[.slice A0 n c0] 24)).alloc (.cells #[.int .i64 lo] 3)) 3 (.int .i64 hi)
  rw [World.size_alloc, World.size_alloc] at h2
  exact h2

end

section
open Go.RowKit Go.Shelf Go.Proofs.YtfhjbhbmbnnimaaW.PrintWords Go.Proofs.YtfhjbhbmbnnimaaW.PrintLast Go.Proofs.YtfhjbhbmbnnimaaW.PrintMore Go.Proofs.Ytfhjbhbmbnnimaa.Rng
attribute [local go_sem high] max2_mx min2_mn

/-- The sum of the pieces' sizes. -/
def sizeW (l : List S58) : Int := l.foldl (fun n p => wrap64 (n + p.f2)) 0

theorem size_any (l : List S58) (hm : l.length ≤ 9223372036854775807) : ∀ (d k : Nat) (i s : Int), 0 ≤ i → i ≤ l.length → (l.length : Int) - i = d → d < k →
  api_Piece_int_36.l0 k s l (l.length : Int) i = some ((l.drop i.toNat).foldl (fun n p => wrap64 (n + p.f2)) s) := by
 intro d
 induction d with
 | zero =>
  intro k i s h0 h1 hd hk
  obtain ⟨k, rfl⟩ : ∃ m, k = m + 1 := ⟨k - 1, by omega⟩
  simp only [api_Piece_int_36.l0]
  rw [if_neg (by omega), List.drop_of_length_le (by omega)]
  rfl
 | succ d ih =>
  intro k i s h0 h1 hd hk
  obtain ⟨k, rfl⟩ : ∃ m, k = m + 1 := ⟨k - 1, by omega⟩
  simp only [api_Piece_int_36.l0]
  rw [if_pos (by omega), if_pos h0, if_pos (by omega)]
  simp only [extent_Size_1.f, Option.bind_some]
  rw [show wrap64 (i + 1) = i + 1 by unfold wrap64; omega, ih k (i + 1) _ (by omega) (by omega) (by omega) (by omega), drop_stepI l z58 i h0 (by omega)]
  rfl

theorem size_all (l : List S58) (hm : l.length ≤ 9223372036854775807) : extent_Size.f (l.length + 1) l = some (sizeW l) := by
 have h := size_any l hm l.length (l.length + 1) 0 0 (by omega) (by omega) (by omega) (by omega)
 unfold extent_Size.f api_Piece_int_36.f
 rw [h]
 rfl

def extent_Part.f (l0 : List S58) (off n : Int) : Option (List S58) :=
 if n ≤ 0 ∨ off ≥ sizeW l0 then some [] else
 if off < 0 then
  if wrap64 (off + n) ≤ 0 then some [] else joinAll [] (betw l0 0 (wrap64 (0 + mn (wrap64 (off + n)) (wrap64 (sizeW l0 - 0)))))
 else joinAll [] (betw l0 off (wrap64 (off + mn n (wrap64 (sizeW l0 - off)))))

/-- body(between(b, lo, hi)), in the world that holds the two. -/
theorem body_between (gb q : Nat) (A0 : Option Addr) (c0 : Nat) (b : List S58) (lo hi : Int) (r : List S58) (w0 w : World) (hB : Below w0.heap.size w0 w) (hr : Kd.C k58 w0 A0 b.length b) (hc : b.length ≤ c0)
  (hgb : w0.heap.size ≤ gb) (hxb : w.cell? ⟨gb, 0, none⟩ = some (.slice A0 b.length c0)) (hxl : Boxed w (gb + 1) 3 (.int .i64 lo)) (hxh : Boxed w (gb + 2) 3 (.int .i64 hi))
  (hq : w0.heap.size ≤ q) (hqn : gb + 2 < q) (hx : w.cell? ⟨q, 0, none⟩ = some (.func (.func 52) #[] #[.pointer (some ⟨gb, 0, none⟩), .pointer (some ⟨gb + 1, 0, none⟩), .pointer (some ⟨gb + 2, 0, none⟩)]))
  (h : joinAll [] (betw b lo hi) = some r) :
  Calls Try.prog 32 #[.slice (some ⟨q, 0, none⟩) 1 1] w fun e w' => ∃ v, e = .returned v ∧ Kd.R k58 58 w' w0.heap.size (fun _ => True) v r ∧ Below w0.heap.size w0 w' := by
 have hgl : gb < w.heap.size := World.block_lt_of_cell? w _ hxb
 refine (body_calls [⟨52, #[.pointer (some ⟨gb, 0, none⟩), .pointer (some ⟨gb + 1, 0, none⟩), .pointer (some ⟨gb + 2, 0, none⟩)], betw b lo hi, fun k => k < w0.heap.size ∨ k = gb ∨ k = gb + 1 ∨ k = gb + 2, fun k => k = gb + 1 ∨ k = gb + 2⟩] q 1 r w (by simp) (by simp)
  ?cells ?qT ?en ?gv ?S ?T ?dis ?j ?q).mono ?fin
 case cells =>
  intro i it hi'
  rcases i with _ | i
  ·obtain rfl := Option.some.inj hi'; exact hx
  ·simp at hi'
 case qT => intro it hi'; rw [List.mem_singleton] at hi'; subst hi'; dsimp only; omega
 case en => intro it hi'; rw [List.mem_singleton] at hi'; subst hi'; exact enters_of Try.func52 (by kernel_rfl) rfl
 case gv =>
  intro it hi' m hm; rw [List.mem_singleton] at hi'; subst hi'
  exact between_gives Fence.wide m trivial rfl hm gb (gb + 1) (gb + 2) A0 c0 b lo hi w0 w hgb (by omega) (by omega) (by omega) (by omega) (by omega) (fun k hk => hB.block k hk) hr hc hxb hxl hxh
 case S =>
  intro it hi' k hk; rw [List.mem_singleton] at hi'; subst hi'
  have := hB.size; have := hxh.lt
  rcases hk with hk | hk | hk | hk <;> omega
 case T => intro it hi' k hk; rw [List.mem_singleton] at hi'; subst hi'; have := hxh.lt; rcases hk with hk | hk <;> omega
 case dis => exact List.pairwise_singleton _ _
 case j => simpa using h
 case q => intro _; exact World.block_lt_of_cell? w _ hx
 case fin =>
  rintro e w' ⟨v, rfl, hv, ht⟩
  refine ⟨v, rfl, Kd.R_lower hv hB.size, hB.trans ⟨ht.os, ht.tape, ht.output, ht.size, fun k hk => ht.same k (by have := hB.size; omega) (fun hx => ?_)⟩⟩
  obtain ⟨it, h1, h2⟩ := hx
  rw [List.mem_singleton] at h1; subst h1
  rcases h2 with h2 | h2 <;> omega

set_option maxHeartbeats 8000000 in
set_option maxRecDepth 100000 in
theorem extent_Part.calls (A0 : Option Addr) (c0 : Nat) (l0 : List (S58)) (off n : Int) (r : List (S58)) (w : World) (hr0 : Kd.C k58 w A0 l0.length l0) (hc0 : l0.length ≤ c0) (h : extent_Part.f l0 off n = some r) :
  Calls Try.prog 13 #[.slice A0 l0.length c0, .int .i64 off, .int .i64 n] w fun e w' => ∃ v0_ : Value, e = .returned (v0_) ∧ Kd.R k58 58 w' w.heap.size (fun _ => True) v0_ r ∧ Below w.heap.size w w' := by
 have HS := Aside0.mk (size_all l0 hr0.2.1)
 have HR0 := Aside0.mk hr0
 clear hr0
 unfold extent_Part.f at h
 generalize sizeW l0 = size at *
 by_cases hn : n ≤ 0
 ·rw [if_pos (.inl hn)] at h
  obtain rfl := Option.some.inj h
  have hn1 := decide_eq_true hn
  go_enter Try.func13, Try.ntmps13
  go_wp2_with (go_at_call 19; (refine (extent_Size.calls (l0.length + 1) A0 c0 l0 size _ HR0.out hc0 HS.out).mono ?_); rintro e w1 ⟨rfl, hb1⟩)
  go_ret
  exact ⟨_, rfl, Kd.R_nil _ _ _ _ _, hb1⟩
 by_cases ho : off ≥ size
 ·rw [if_pos (.inr ho)] at h
  obtain rfl := Option.some.inj h
  have hn1 := decide_eq_false hn
  have ho1 : decide (size ≤ off) = true := decide_eq_true ho
  go_enter Try.func13, Try.ntmps13
  go_wp2_with (go_at_call 19; (refine (extent_Size.calls (l0.length + 1) A0 c0 l0 size _ HR0.out hc0 HS.out).mono ?_); rintro e w1 ⟨rfl, hb1⟩)
  go_ret
  exact ⟨_, rfl, Kd.R_nil _ _ _ _ _, hb1⟩
 rw [if_neg (fun hx => hx.elim hn ho)] at h
 have hn1 := decide_eq_false hn
 have ho1 : decide (size ≤ off) = false := decide_eq_false ho
 by_cases h0 : off < 0
 ·rw [if_pos h0] at h
  have h01 := decide_eq_true h0
  by_cases h2 : wrap64 (off + n) ≤ 0
  ·rw [if_pos h2] at h
   obtain rfl := Option.some.inj h
   have h21 := decide_eq_true h2
   go_enter Try.func13, Try.ntmps13
   go_wp2_with (go_at_call 19; (refine (extent_Size.calls (l0.length + 1) A0 c0 l0 size _ HR0.out hc0 HS.out).mono ?_); rintro e w1 ⟨rfl, hb1⟩)
   go_ret
   exact ⟨_, rfl, Kd.R_nil _ _ _ _ _, hb1⟩
  ·rw [if_neg h2] at h
   have h21 := decide_eq_false h2
   have H := Aside0.mk h
   clear h
   go_enter Try.func13, Try.ntmps13
   go_wp2_with (first | (go_at_call 19; (refine (extent_Size.calls (l0.length + 1) A0 c0 l0 size _ HR0.out hc0 HS.out).mono ?_); rintro e w1 ⟨rfl, hb1⟩) | (go_at_call 33; (refine (between_calls A0 c0 l0.length _ _ _).mono ?_); rintro e w2 ⟨gb, hgb, rfl, hb2, hxb, hxl, hxh⟩) | (go_at_call 32; (refine (body_between gb w2.heap.size A0 c0 l0 _ _ r w _ (below_alloc (below_step hb1 hb2) _) HR0.out hc0 (Nat.le_trans hb1.size hgb) ?sB (hxl.alloc _) (hxh.alloc _) (Nat.le_trans hb1.size hb2.size) hxh.lt ?sX ?sJ).mono ?_); (case sB => exact (World.cell?_alloc_lt _ _ _ (World.block_lt_of_cell? w2 _ hxb)).trans hxb); (case sX => rw [World.cell?_alloc_new]; rfl); (case sJ => go_loud (first | exact H.out | simpa using H.out)); rintro e w3 ⟨v3, rfl, hv3, hb3⟩))
   go_ret
   exact ⟨_, rfl, hv3, hb3⟩
 ·rw [if_neg h0] at h
  have h01 := decide_eq_false h0
  have H := Aside0.mk h
  clear h
  go_enter Try.func13, Try.ntmps13
  go_wp2_with (first | (go_at_call 19; (refine (extent_Size.calls (l0.length + 1) A0 c0 l0 size _ HR0.out hc0 HS.out).mono ?_); rintro e w1 ⟨rfl, hb1⟩) | (go_at_call 33; (refine (between_calls A0 c0 l0.length _ _ _).mono ?_); rintro e w2 ⟨gb, hgb, rfl, hb2, hxb, hxl, hxh⟩) | (go_at_call 32; (refine (body_between gb w2.heap.size A0 c0 l0 _ _ r w _ (below_alloc (below_step hb1 hb2) _) HR0.out hc0 (Nat.le_trans hb1.size hgb) ?sB (hxl.alloc _) (hxh.alloc _) (Nat.le_trans hb1.size hb2.size) hxh.lt ?sX ?sJ).mono ?_); (case sB => exact (World.cell?_alloc_lt _ _ _ (World.block_lt_of_cell? w2 _ hxb)).trans hxb); (case sX => rw [World.cell?_alloc_new]; rfl); (case sJ => go_loud (first | exact H.out | simpa using H.out)); rintro e w3 ⟨v3, rfl, hv3, hb3⟩))
  go_ret
  exact ⟨_, rfl, hv3, hb3⟩

/-- An iterator value that lives in the blocks lo .. hi - 1, beside what w0 holds. -/
structure SrcOk (w0 w : World) (it : It) (lo hi : Nat) : Prop where
 low : w0.heap.size ≤ lo
 high : hi ≤ w.heap.size
 enters : Enters Try.prog it.g
 gives : ∀ m, 1 ≤ m → Gives Fence.wide m Try.prog it.g it.lb encP it.S it.T it.xs (fun _ => True) w
 leans : ∀ k, it.S k → k < w0.heap.size ∨ (lo ≤ k ∧ k < hi)
 turns : ∀ k, it.T k → lo ≤ k ∧ k < hi

theorem SrcOk.later {w0 w w' : World} {it : It} {lo hi : Nat} (h : SrcOk w0 w it lo hi) (hb : Below w.heap.size w w') (h0 : w0.heap.size ≤ w.heap.size) : SrcOk w0 w' it lo hi :=
 ⟨h.low, Nat.le_trans h.high hb.size, h.enters, fun m hm => (h.gives m hm).later (fun k hk => hb.block k (by have := h.high; rcases h.leans k hk with h1 | h1 <;> omega)) hb.size, h.leans, h.turns⟩

def itBetw (gb : Nat) (base : Nat) (b : List S58) (lo hi : Int) : It := ⟨52, #[.pointer (some ⟨gb, 0, none⟩), .pointer (some ⟨gb + 1, 0, none⟩), .pointer (some ⟨gb + 2, 0, none⟩)], betw b lo hi, fun k => k < base ∨ k = gb ∨ k = gb + 1 ∨ k = gb + 2, fun k => k = gb + 1 ∨ k = gb + 2⟩
def itOne (gs ga : Nat) (p : S58) : It := ⟨74, #[.pointer (some ⟨gs, 0, none⟩)], [p], fun k => k = gs ∨ k = ga, fun _ => False⟩

theorem srcBetw {gb : Nat} {A0 : Option Addr} {c0 : Nat} {b : List S58} {lo hi : Int} {w0 w W : World} (hB : Below w0.heap.size w0 W) (hr : Kd.C k58 w0 A0 b.length b) (hc : b.length ≤ c0)
  (hgb : w.heap.size ≤ gb) (h0 : w0.heap.size ≤ w.heap.size) (hxb : W.cell? ⟨gb, 0, none⟩ = some (.slice A0 b.length c0)) (hxl : Boxed W (gb + 1) 3 (.int .i64 lo)) (hxh : Boxed W (gb + 2) 3 (.int .i64 hi)) :
  SrcOk w0 W (itBetw gb w0.heap.size b lo hi) w.heap.size W.heap.size := by
 have hl := hxh.lt
 refine ⟨h0, Nat.le_refl _, enters_of Try.func52 (by kernel_rfl) rfl, fun m hm => ?_, fun k hk => ?_, fun k hk => ?_⟩
 ·exact between_gives Fence.wide m trivial rfl hm gb (gb + 1) (gb + 2) A0 c0 b lo hi w0 W (by omega) (by omega) (by omega) (by omega) (by omega) (by omega) (fun k hk => hB.block k hk) hr hc hxb hxl hxh
 ·rcases hk with hk | hk | hk | hk
  ·exact .inl hk
  all_goals exact .inr (by omega)
 ·rcases hk with hk | hk <;> omega

theorem srcOne {gs ga : Nat} {p : S58} {w0 w W : World} (h0 : w0.heap.size ≤ w.heap.size) (hs : w.heap.size ≤ gs) (ha : w.heap.size ≤ ga) (hxs : W.cell? ⟨gs, 0, none⟩ = some (.slice (some ⟨ga, 0, none⟩) 1 1)) (hx : W.heap[ga]? = some (.cells #[.int .i64 p.f0, .int .i64 p.f1, .int .i64 p.f2] 58 (0, 0))) :
  SrcOk w0 W (itOne gs ga p) w.heap.size W.heap.size := by
 have hl1 : gs < W.heap.size := World.block_lt_of_cell? W _ hxs
 have hl2 : ga < W.heap.size := (Array.getElem?_eq_some_iff.1 hx).1
 refine ⟨h0, Nat.le_refl _, enters_of Try.func74 (by kernel_rfl) rfl, fun m hm => ?_, fun k hk => ?_, fun k hk => hk.elim⟩
 ·exact one_gives Fence.wide m trivial rfl hm gs ga p W hxs hx
 ·rcases hk with hk | hk <;> exact .inr (by omega)

/-- body over values of these kinds, in a row of their own at q. -/
theorem body_list (l : List (It × Nat × Nat)) (q : Nat) (r : List S58) (w0 w : World) (hB : Below w0.heap.size w0 w) (hlen : l.length ≤ 1000000)
  (hl : ∀ s ∈ l, SrcOk w0 w s.1 s.2.1 s.2.2) (hp : l.Pairwise (fun a b => a.2.2 ≤ b.2.1)) (hq : ∀ s ∈ l, s.2.2 ≤ q) (hqw : q < w.heap.size)
  (hx : ∀ i s, l[i]? = some s → w.cell? ⟨q, i, none⟩ = some (.func (.func s.1.g) #[] s.1.lb)) (h : joinAll [] (l.flatMap (·.1.xs)) = some r) :
  Calls Try.prog 32 #[.slice (some ⟨q, 0, none⟩) l.length l.length] w fun e w' => ∃ v, e = .returned v ∧ Kd.R k58 58 w' w0.heap.size (fun _ => True) v r ∧ Below w0.heap.size w0 w' := by
 have hb := body_calls (l.map (·.1)) q l.length r w (by simp) (by simpa using hlen) ?cells ?qT ?en ?gv ?S ?T ?dis ?j (fun _ => hqw)
 ·rw [List.length_map] at hb
  refine hb.mono ?_
  rintro e w' ⟨v, rfl, hv, ht⟩
  refine ⟨v, rfl, Kd.R_lower hv hB.size, hB.trans ⟨ht.os, ht.tape, ht.output, ht.size, fun k hk => ht.same k (Nat.lt_of_lt_of_le hk hB.size) (fun hx => ?_)⟩⟩
  obtain ⟨it, h1, h2⟩ := hx
  obtain ⟨s, hs, rfl⟩ := List.mem_map.1 h1
  have := (hl s hs).turns k h2
  have := (hl s hs).low
  omega
 case cells =>
  intro i it hi
  rw [List.getElem?_map] at hi
  obtain ⟨s, hs, rfl⟩ := Option.map_eq_some_iff.1 hi
  exact hx i s hs
 case qT =>
  intro it hi ht
  obtain ⟨s, hs, rfl⟩ := List.mem_map.1 hi
  have := (hl s hs).turns q ht
  have := hq s hs
  omega
 case en =>
  intro it hi
  obtain ⟨s, hs, rfl⟩ := List.mem_map.1 hi
  exact (hl s hs).enters
 case gv =>
  intro it hi m hm
  obtain ⟨s, hs, rfl⟩ := List.mem_map.1 hi
  exact (hl s hs).gives m hm
 case S =>
  intro it hi k hk
  obtain ⟨s, hs, rfl⟩ := List.mem_map.1 hi
  have := (hl s hs).high
  have := hB.size
  rcases (hl s hs).leans k hk with h1 | h1 <;> omega
 case T =>
  intro it hi k hk
  obtain ⟨s, hs, rfl⟩ := List.mem_map.1 hi
  have := (hl s hs).high
  have := (hl s hs).turns k hk
  omega
 case dis =>
  rw [List.pairwise_map]
  refine (List.pairwise_iff_forall_sublist.2 fun {a b} hab k h1 h2 => ?_)
  have hab1 : a.2.2 ≤ b.2.1 := by
   have := List.pairwise_iff_forall_sublist.1 hp hab
   exact this
  have ha := (hl a (hab.subset (by simp))).turns k h1
  have hbb := (hl b (hab.subset (by simp))).leans k h2
  have := (hl a (hab.subset (by simp))).low
  omega
 case j => rw [List.flatMap_map]; exact h


end

/-! ### r08_Same: function 17 -/
def r08_Same.l0 : Nat → List (S58) → List (S58) → Int → Option (Bool)
 | 0, _, _, _ => none
 | k + 1, x0, x1, x5 => if x5 < (x0.length : Int) then (if 0 ≤ x5 then (if x5 < (x1.length : Int) then (if (!(((rd_T58 x0 x5).f0) == ((rd_T58 x1 x5).f0)) || (!(((rd_T58 x0 x5).f1) == ((rd_T58 x1 x5).f1)) || (!(((rd_T58 x0 x5).f2) == ((rd_T58 x1 x5).f2))))) = true then (some false) else (r08_Same.l0 k x0 x1 (wrap64 (x5 + 1)))) else (none)) else (none)) else (some true)
def r08_Same.f (k : Nat) (l0 : List (S58)) (l1 : List (S58)) : Option (Bool) := if (l0.length : Int) = (l1.length : Int) then (r08_Same.l0 k l0 l1 0) else (some false)
theorem r08_Same.mono_l : ∀ k, (∀ y0 y1 y2, LeO (r08_Same.l0 k y0 y1 y2) (r08_Same.l0 (k + 1) y0 y1 y2))
 | 0 => fun _ _ _ r h => by simp [r08_Same.l0] at h
 | k + 1 => by
  have ih0 := r08_Same.mono_l k
  ·intro y0 y1 y2
   unfold r08_Same.l0
   repeat' first
   | (with_reducible exact ih0 _ _ _)
   | (with_reducible exact LeO.refl _)
   | (with_reducible exact LeO.none _)
   | (with_reducible refine LeO.ite ?_ ?_)
   | (with_reducible refine LeO.bind ?_ (fun _ => ?_))
   | exact ih0 _ _ _
   | exact LeO.none _
   | refine LeO.ite ?_ ?_
   | refine LeO.bind ?_ (fun _ => ?_)
theorem r08_Same.mono : ∀ a0 a1 k, LeO (r08_Same.f k a0 a1) (r08_Same.f (k + 1) a0 a1) := by
 intro a0 a1 k
 have ih0 := r08_Same.mono_l k
 unfold r08_Same.f
 repeat' first
   | (with_reducible exact ih0 _ _ _)
   | (with_reducible exact LeO.refl _)
   | (with_reducible exact LeO.none _)
   | (with_reducible refine LeO.ite ?_ ?_)
   | (with_reducible refine LeO.bind ?_ (fun _ => ?_))
   | exact ih0 _ _ _
   | exact LeO.none _
   | refine LeO.ite ?_ ?_
   | refine LeO.bind ?_ (fun _ => ?_)
set_option maxHeartbeats 8000000 in
set_option maxRecDepth 100000 in
theorem r08_Same.calls (k : Nat) (A0 : Option Addr) (c0 : Nat) (l0 : List (S58)) (A1 : Option Addr) (c1 : Nat) (l1 : List (S58)) (r : Bool) (w : World) (hr0 : Kd.C k58 w A0 l0.length l0) (hc0 : l0.length ≤ c0) (hr1 : Kd.C k58 w A1 l1.length l1) (hc1 : l1.length ≤ c1) (h : r08_Same.f k l0 l1 = some r) :
  Calls Try.prog 17 #[.slice A0 l0.length c0, .slice A1 l1.length c1] w fun e w' => e = .returned (.bool r) ∧ Drawn0 w w' := by
 have hu58 := Try.underlying58
 have HR0 := Aside0.mk hr0
 have HC0 := Aside0.mk hc0
 clear hr0 hc0
 have HR1 := Aside0.mk hr1
 have HC1 := Aside0.mk hc1
 clear hr1 hc1
 have H : (if (l0.length : Int) = (l1.length : Int) then (r08_Same.l0 k l0 l1 0) else (some false)) = some r := h
 clear h
 by_cases c3 : (l0.length : Int) = (l1.length : Int)
 ·rw [if_pos c3] at H
  have c3b0 : ((l0.length : Int) == (l1.length : Int)) = true := beq_iff_eq.mpr c3
  have c3b1 : ((l0.length : Int) != (l1.length : Int)) = false := bne_eq_false_iff_eq.mpr c3
  have c3b2 : (l0.length == l1.length) = true := by first | simpa using c3 | (simp at c3 ⊢; omega)
  clear c3
  have H' := Aside0.mk H
  clear H
  go_enter Try.func17, Try.ntmps17
  go_wp2
  repeat (go_quiet (fail); try go_wp2)
  go_loopg [5] k (fun kq v5 w' => ∃ (x5_1 : Int), v5 = .int .i64 x5_1 ∧ Aside0 (r08_Same.l0 kq l0 l1 x5_1 = some r) ∧ Aside0 (kq ≤ k) ∧ Drawn0 w w')
  case atStart => exact ⟨(0), (by first | rfl | (simp; done) | (simp [*]; done)), H', ⟨Nat.le_refl _⟩, by repeat (first | exact Drawn0.refl _ | apply Drawn0.step)⟩
  case round =>
   clear H'
   try clear c1
   try clear p2
   try clear c3
   try clear c3b0
   try clear c3b1
   try clear c3b2
   obtain ⟨x5_1, rfl, HA, HK1, ⟨m1, rfl⟩⟩ := hrel
   cases gk with
   | zero => exact absurd HA.out (by simp [r08_Same.l0])
   | succ k1 =>
    have H := HA.out
    clear HA
    simp only [r08_Same.l0] at H
    by_cases c4 : x5_1 < (l0.length : Int)
    ·rw [if_pos c4] at H
     have c4b0 : decide (x5_1 < (l0.length : Int)) = true := decide_eq_true c4
     clear c4
     by_cases c5 : 0 ≤ x5_1
     ·rw [if_pos c5] at H
      have c5b0 : decide (0 ≤ x5_1) = true := decide_eq_true c5
      clear c5
      by_cases c6 : x5_1 < (l1.length : Int)
      ·rw [if_pos c6] at H
       have c6b0 : decide (x5_1 < (l1.length : Int)) = true := decide_eq_true c6
       clear c6
       by_cases c7 : (!(((rd_T58 l0 x5_1).f0) == ((rd_T58 l1 x5_1).f0)) || (!(((rd_T58 l0 x5_1).f1) == ((rd_T58 l1 x5_1).f1)) || (!(((rd_T58 l0 x5_1).f2) == ((rd_T58 l1 x5_1).f2))))) = true
       ·rw [if_pos c7] at H
        have c7b0 : (!(((rd_T58 l0 x5_1).f0) == ((rd_T58 l1 x5_1).f0)) || (!(((rd_T58 l0 x5_1).f1) == ((rd_T58 l1 x5_1).f1)) || (!(((rd_T58 l0 x5_1).f2) == ((rd_T58 l1 x5_1).f2))))) = true := c7
        clear c7
        obtain rfl := Option.some.inj H
        have p126 : 0 ≤ (x5_1 : Int) := of_decide_eq_true (by first | (with_reducible assumption) | assumption)
        have q126 : x5_1 < (l0.length : Int) := of_decide_eq_true (by first | (with_reducible assumption) | assumption)
        obtain ⟨ad126, e126, hx126_0, hx126_1, hx126_2⟩ := at_T58 HR0.out x5_1 p126 q126
        cases e126
        replace p126 := eq_true p126
        replace q126 := eq_true q126
        have p127 : 0 ≤ (x5_1 : Int) := of_decide_eq_true (by first | (with_reducible assumption) | assumption)
        have q127 : x5_1 < (l1.length : Int) := of_decide_eq_true (by first | (with_reducible assumption) | assumption)
        obtain ⟨ad127, e127, hx127_0, hx127_1, hx127_2⟩ := at_T58 HR1.out x5_1 p127 q127
        cases e127
        replace p127 := eq_true p127
        replace q127 := eq_true q127
        go_wp2
        repeat (go_quiet (fail); try go_wp2)
        go_ret
        exact ⟨by first | rfl | (simp; done) | (simp [*]; done), by repeat (first | exact Drawn0.refl _ | apply Drawn0.step)⟩
       ·rw [if_neg c7] at H
        have c7b0 : (!(((rd_T58 l0 x5_1).f0) == ((rd_T58 l1 x5_1).f0)) || (!(((rd_T58 l0 x5_1).f1) == ((rd_T58 l1 x5_1).f1)) || (!(((rd_T58 l0 x5_1).f2) == ((rd_T58 l1 x5_1).f2))))) = false := by simpa using c7
        clear c7
        have H' := Aside0.mk H
        clear H
        have p126 : 0 ≤ (x5_1 : Int) := of_decide_eq_true (by first | (with_reducible assumption) | assumption)
        have q126 : x5_1 < (l0.length : Int) := of_decide_eq_true (by first | (with_reducible assumption) | assumption)
        obtain ⟨ad126, e126, hx126_0, hx126_1, hx126_2⟩ := at_T58 HR0.out x5_1 p126 q126
        cases e126
        replace p126 := eq_true p126
        replace q126 := eq_true q126
        have p127 : 0 ≤ (x5_1 : Int) := of_decide_eq_true (by first | (with_reducible assumption) | assumption)
        have q127 : x5_1 < (l1.length : Int) := of_decide_eq_true (by first | (with_reducible assumption) | assumption)
        obtain ⟨ad127, e127, hx127_0, hx127_1, hx127_2⟩ := at_T58 HR1.out x5_1 p127 q127
        cases e127
        replace p127 := eq_true p127
        replace q127 := eq_true q127
        go_wp2
        repeat (go_quiet (fail); try go_wp2)
        go_roundg k1
        case measure => have := HK1.out; omega
        case rel => exact ⟨(wrap64 (x5_1 + 1)), (by first | rfl | (simp; done) | (simp [*]; done)), H', ⟨by have := HK1.out; omega⟩, by repeat (first | exact Drawn0.refl _ | apply Drawn0.step)⟩
      ·rw [if_neg c6] at H
       exact absurd H (by simp)
     ·rw [if_neg c5] at H
      exact absurd H (by simp)
    ·rw [if_neg c4] at H
     have c4b0 : decide (x5_1 < (l0.length : Int)) = false := decide_eq_false c4
     clear c4
     obtain rfl := Option.some.inj H
     go_wp2
     repeat (go_quiet (fail); try go_wp2)
     go_ret
     exact ⟨by first | rfl | (simp; done) | (simp [*]; done), by repeat (first | exact Drawn0.refl _ | apply Drawn0.step)⟩
 ·rw [if_neg c3] at H
  have c3b0 : ((l0.length : Int) == (l1.length : Int)) = false := beq_eq_false_iff_ne.mpr c3
  have c3b1 : ((l0.length : Int) != (l1.length : Int)) = true := bne_iff_ne.mpr c3
  have c3b2 : (l0.length == l1.length) = false := by first | simpa using c3 | (simp at c3 ⊢; omega)
  obtain rfl := Option.some.inj H
  go_enter Try.func17, Try.ntmps17
  go_wp2
  repeat (go_quiet (fail); try go_wp2)
  go_ret
  exact ⟨by first | rfl | (simp; done) | (simp [*]; done), by repeat (first | exact Drawn0.refl _ | apply Drawn0.step)⟩

end Go.Proofs.Ytfhjbhbmbnnimaa.PE
