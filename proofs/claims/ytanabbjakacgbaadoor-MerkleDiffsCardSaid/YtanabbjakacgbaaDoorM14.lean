/- Put together by this session's program out of: Gs Sn. -/
import Derived.Test.YtanabbjakacgbaaDoorM4
import Derived.Test.YtanabbjakacgbaaDoorM2
import Derived.Test.YtanabbjakacgbaaDoorM13
namespace Go.Proofs.YtanabbjakacgbaaDoor.Grow
open Go Go.RowKit Go.Proofs.YtanabbjakacgbaaDoorW.PrintWords Go.Proofs.YtanabbjakacgbaaDoorW.PrintLast
set_option linter.unusedVariables false
set_option linter.unusedSimpArgs false
section
variable {P : Program} {ops : Array Oper} {Q : Exit → Act → World → Prop} {S : World → Prop} {ds : List Nat}
def growLB (ops : Array Oper) (m n : Nat) (l0 l1 : Array Bool) : Bool :=
  decide (n < ops.size) && decide (l0.size = ops.size) && decide (l1.size = ops.size) &&
  ((List.range n).all fun i => decide (i < m) || match ops[i]? with
    | some o => o.dst.isSome && o.guard.isNone && (o.after.all fun e => !Region.binds .any e || l0.getD e.on false) && !l0.getD i true
    | none => false) &&
  ((List.range n).all fun i => (List.range n).all fun k => decide (i = k) || decide (dstN ops i ≠ dstN ops k)) &&
  ((List.range ops.size).all fun i => (decide (m ≤ i) && decide (i < n)) || l0.getD i true || match ops[i]? with
    | some o => (List.range n).all fun j => decide (j < m) || o.after.any fun e => Region.binds .any e && e.on == j
    | none => false) &&
  ((List.range ops.size).all fun i => l1.getD i false == ((decide (m ≤ i) && decide (i < n)) || l0.getD i false))
structure GrowL (ops : Array Oper) (m n : Nat) (l0 l1 : Array Bool) : Prop where
  lt : n < ops.size
  sz : l0.size = ops.size
  sz1 : l1.size = ops.size
  at_ : ∀ i, m ≤ i → i < n → ∃ o, ops[i]? = some o ∧ o.dst = some (dstN ops i) ∧ o.guard = none ∧ (∀ e ∈ o.after, Region.binds .any e = true → l0.getD e.on false = true) ∧ l0.getD i true = false
  dis : ∀ j k, j < n → k < n → dstN ops j = dstN ops k → j = k
  wait : ∀ i, i < ops.size → l0.getD i true = false → ¬ (m ≤ i ∧ i < n) → ∀ j, m ≤ j → j < n → ∃ o, ops[i]? = some o ∧ ∃ e ∈ o.after, Region.binds .any e = true ∧ e.on = j
  fin : ∀ i, i < ops.size → l1.getD i false = ((decide (m ≤ i) && decide (i < n)) || l0.getD i false)
theorem growLB_spec {m n : Nat} {l0 l1 : Array Bool} (h : growLB ops m n l0 l1 = true) : GrowL ops m n l0 l1 := by
  simp only [growLB, Bool.and_eq_true, decide_eq_true_eq, List.all_eq_true, List.mem_range, Bool.or_eq_true, beq_iff_eq] at h
  obtain ⟨⟨⟨⟨⟨⟨h1, h2⟩, h3⟩, h4⟩, h5⟩, h6⟩, h7⟩ := h
  refine ⟨h1, h2, h3, fun i hm hi => ?_, fun j k hj hk e => ?_, fun i hi hu hn j hmj hj => ?_, fun i hi => h7 i hi⟩
  · rcases h4 i hi with h | h
    · omega
    · cases ho : ops[i]? with
      | none => rw [ho] at h; cases h
      | some o =>
        rw [ho] at h
        simp only [Bool.and_eq_true] at h
        obtain ⟨⟨⟨a, b⟩, c⟩, d⟩ := h
        obtain ⟨N, hN⟩ := Option.isSome_iff_exists.1 a
        refine ⟨o, rfl, by simp [dstN, ho, hN], Option.isNone_iff_eq_none.1 b, fun e he hb => ?_, by simpa using d⟩
        have := Array.all_eq_true_iff_forall_mem.1 c e he
        rw [hb] at this
        simpa using this
  · rcases h5 j hj k hk with h | h
    · exact h
    · exact absurd e h
  · rcases h6 i hi with (h | h) | h
    · exact absurd h hn
    · rw [hu] at h; cases h
    · cases ho : ops[i]? with
      | none => rw [ho] at h; cases h
      | some o =>
        rw [ho] at h
        simp only [List.all_eq_true, List.mem_range, Bool.or_eq_true, decide_eq_true_eq] at h
        rcases h j hj with h | h
        · omega
        · obtain ⟨k, hk, hp⟩ := Array.any_eq_true.1 h
          simp only [Bool.and_eq_true, beq_iff_eq] at hp
          exact ⟨o, rfl, _, Array.getElem_mem hk, hp.1, hp.2⟩
theorem getD_same {a b : Array Bool} {j : Nat} {d : Bool} (h : a[j]? = b[j]?) : a.getD j d = b.getD j d := by
  rw [Array.getD_eq_getD_getElem?, Array.getD_eq_getD_getElem?, h]
theorem last_of_grow {m n fe : Nat} {l0 l1 : Array Bool} (G : GrowL ops m n l0 l1) {a0 : Act} {w0 : World} (v0 : Nat → Value) (F : Nat → Value → World → Prop) (M : Nat → Bool) (hS : ∀ w, Below w0.heap.size w0 w → S w) (hmono : ∀ i v w w', F i v w → Below w.heap.size w w' → F i v w')
    (hstep : ∀ i o, m ≤ i → i < n → ops[i]? = some o → ∀ vs w, (∀ j, j < m → vs j = v0 j) → Below w0.heap.size w0 w → ∀ K : Act → World → Prop, (∀ v w', F i v w' → Below w.heap.size w w' → (M i = true → ∀ b, blk v = some b → w.heap.size ≤ b ∧ b < w'.heap.size) → K ((ap ops n a0 vs).put o.dst v) w') → o.wp P (ap ops n a0 vs) w K Q)
    (hend : ∀ vs w, (∀ j, j < m → vs j = v0 j) → Below w0.heap.size w0 w → (∀ i, m ≤ i → i < n → F i (vs i) w) → (∀ i j, m ≤ i → i < n → m ≤ j → j < n → i ≠ j → M i = true → M j = true → ∀ b, blk (vs i) = some b → blk (vs j) ≠ some b) → wpAnyLast P .any ops Q S ds fe l1 (ap ops n a0 vs) w) :
    ∀ (f : Nat) (l : Array Bool) (vs : Nat → Value) (w : World), (List.range n).countP (fun i => decide (m ≤ i) && !l.getD i false) = f → l.size = ops.size → (∀ j, ¬ (m ≤ j ∧ j < n) → l[j]? = l0[j]?) → (∀ j, j < m → vs j = v0 j) → (∀ i, m ≤ i → i < n → l.getD i false = true → F i (vs i) w) → Below w0.heap.size w0 w →
      (∀ i, m ≤ i → i < n → l.getD i false = true → M i = true → ∀ b, blk (vs i) = some b → b < w.heap.size) → (∀ i j, m ≤ i → i < n → m ≤ j → j < n → l.getD i false = true → l.getD j false = true → i ≠ j → M i = true → M j = true → ∀ b, blk (vs i) = some b → blk (vs j) ≠ some b) →
      wpAnyLast P .any ops Q S ds (f + fe) l (ap ops n a0 vs) w := by
  intro f
  induction f with
  | zero =>
    intro l vs w hf hsz hl hv hF hb hD1 hD2
    have hall : ∀ i, m ≤ i → i < n → l.getD i false = true := fun i hm hi => by
      have := List.countP_eq_zero.1 hf i (List.mem_range.2 hi)
      simpa [hm] using this
    have e : l = l1 := by
      apply Array.ext (hsz.trans G.sz1.symm)
      intro i h1 h2
      have h3 : i < ops.size := by omega
      have h4 := G.fin i h3
      have h5 : l.getD i false = l1.getD i false := by
        rw [h4]
        by_cases hi : m ≤ i ∧ i < n
        · rw [hall i hi.1 hi.2]; simp [hi.1, hi.2]
        · rw [getD_same (hl i hi)]
          have : (decide (m ≤ i) && decide (i < n)) = false := by simp; omega
          rw [this, Bool.false_or]
      simpa [h1, h2] using h5
    subst e
    rw [Nat.zero_add]
    exact hend vs w hv hb (fun i hm hi => hF i hm hi (hall i hm hi)) (fun i j hmi hi hmj hj => hD2 i j hmi hi hmj hj (hall i hmi hi) (hall j hmj hj))
  | succ f ih =>
    intro l vs w hf hsz hl hv hF hb hD1 hD2
    have hsz2 : ∀ i, i < n → i < l.size := fun i hi => by rw [hsz]; have := G.lt; omega
    have hex : ∃ i, m ≤ i ∧ i < n ∧ l.getD i false = false := by
      have h0 : 0 < (List.range n).countP (fun i => decide (m ≤ i) && !l.getD i false) := by omega
      obtain ⟨i, hi, hp⟩ := List.countP_pos_iff.1 h0
      simp only [Bool.and_eq_true, decide_eq_true_eq, Bool.not_eq_true'] at hp
      exact ⟨i, hp.1, List.mem_range.1 hi, hp.2⟩
    have hdone : ∀ j, l0.getD j false = true → l.getD j false = true := fun j hj => by
      by_cases hi : m ≤ j ∧ j < n
      · obtain ⟨_, _, _, _, _, hu⟩ := G.at_ j hi.1 hi.2
        have h1 : j < l0.size := by rw [G.sz]; have := G.lt; omega
        simp [h1] at hu hj
        rw [hu] at hj; cases hj
      · rw [getD_same (hl j hi)]; exact hj
    obtain ⟨i0, hm0, hi0, hu0⟩ := hex
    have hready : Region.ready .any ops l ≠ [] := by
      obtain ⟨o, ho, _, _, haf, _⟩ := G.at_ i0 hm0 hi0
      have : i0 ∈ Region.ready .any ops l := mem_ready.2 ⟨getD_in (hsz2 i0 hi0) hu0, o, ho, fun e he hbd => hdone _ (haf e he hbd)⟩
      intro hne
      rw [hne] at this
      cases this
    rw [show f + 1 + fe = (f + fe) + 1 by omega]
    refine ⟨fun h => absurd h hready, fun i hi => ?_⟩
    obtain ⟨hun, o, ho, hdep⟩ := mem_ready.1 hi
    have hilt : i < ops.size := (Array.getElem?_eq_some_iff.1 ho).1
    have hin : m ≤ i ∧ i < n := by
      by_cases hin : m ≤ i ∧ i < n
      · exact hin
      · have hu : l0.getD i true = false := by rw [← getD_same (hl i hin)]; exact hun
        obtain ⟨o', ho', e, he, hbd, hon⟩ := G.wait i hilt hu hin i0 hm0 hi0
        obtain rfl : o = o' := Option.some.inj (ho.symm.trans ho')
        have := hdep e he hbd
        rw [hon, hu0] at this
        cases this
    obtain ⟨hmi, hin⟩ := hin
    obtain ⟨o', ho', hdst, hgd, haf, _⟩ := G.at_ i hmi hin
    obtain rfl : o = o' := Option.some.inj (ho.symm.trans ho')
    refine wpOp_step ho (fun K hK => ?_)
    rw [if_pos (by unfold Region.wanted; rw [hgd])]
    refine hstep i o hmi hin ho vs w hv hb K (fun v w' hvv hw' hM => hK _ _ ⟨fun _ _ => hS _ (hb.trans (hw'.mono hb.size)), ?_⟩)
    rw [hdst, ap_put hin G.dis]
    refine ih (l.setIfInBounds i true) (upd vs i v) w' ?_ (by rw [Array.size_setIfInBounds]; exact hsz) (fun j hj => ?_) (fun j hj => ?_) (fun j hmj hj hlj => ?_) (hb.trans (hw'.mono hb.size)) (fun j hmj hj hlj hMj b hbj => ?_) (fun j k hmj hj hmk hk hlj hlk hjk hMj hMk b hbj hbk => ?_)
    · have hc := count_set (p := fun k => decide (m ≤ k) && !l.getD k false) (q := fun k => decide (m ≤ k) && !(l.setIfInBounds i true).getD k false) (i := i) (by simp [getD_both hun, hmi]) (by simp [hsz2 i hin]) (fun j hji => by show (_ && !_) = (_ && !_); rw [getD_set_ne false (Ne.symm hji)]) n hin
      omega
    · rw [Array.getElem?_setIfInBounds_ne (fun e => hj (by rw [← e]; exact ⟨hmi, hin⟩))]
      exact hl j hj
    · rw [upd, if_neg (by omega)]
      exact hv j hj
    · by_cases hji : j = i
      · subst hji
        rw [upd, if_pos rfl]
        exact hvv
      · rw [upd, if_neg hji]
        rw [getD_set_ne false (Ne.symm hji)] at hlj
        exact hmono _ _ _ _ (hF j hmj hj hlj) hw'
    · by_cases hji : j = i
      · subst hji
        rw [upd, if_pos rfl] at hbj
        exact (hM hMj b hbj).2
      · rw [upd, if_neg hji] at hbj
        rw [getD_set_ne false (Ne.symm hji)] at hlj
        exact Nat.lt_of_lt_of_le (hD1 j hmj hj hlj hMj b hbj) hw'.size
    · by_cases hji : j = i
      · subst hji
        rw [upd, if_pos rfl] at hbj
        rw [upd, if_neg (Ne.symm hjk)] at hbk
        rw [getD_set_ne false hjk] at hlk
        have h1 := (hM hMj b hbj).1
        have h2 := hD1 k hmk hk hlk hMk b hbk
        omega
      · rw [upd, if_neg hji] at hbj
        rw [getD_set_ne false (Ne.symm hji)] at hlj
        by_cases hki : k = i
        · subst hki
          rw [upd, if_pos rfl] at hbk
          have h1 := (hM hMk b hbk).1
          have h2 := hD1 j hmj hj hlj hMj b hbj
          omega
        · rw [upd, if_neg hki] at hbk
          rw [getD_set_ne false (Ne.symm hki)] at hlk
          exact hD2 j k hmj hj hmk hk hlj hlk hjk hMj hMk b hbj hbk
theorem makers_ {m n f fe fuel : Nat} {a0 : Act} {w0 : World} (l0 l1 : Array Bool) (hB : growLB ops m n l0 l1 = true) (es : List Nat) (hes : (List.range n).map (dstN ops) = es) (hf : (List.range n).countP (fun i => decide (m ≤ i) && !l0.getD i false) = f) (hfe : fuel = f + fe)
    (F : Nat → Value → World → Prop) (M : Nat → Bool) (hS : ∀ w, Below w0.heap.size w0 w → S w) (hmono : ∀ i v w w', F i v w → Below w.heap.size w w' → F i v w')
    (hstep : ∀ i o, m ≤ i → i < n → ops[i]? = some o → ∀ vs w, (∀ j, j < m → vs j = a0.tmps.getD (dstN ops j) undef) → Below w0.heap.size w0 w → ∀ K : Act → World → Prop, (∀ v w', F i v w' → Below w.heap.size w w' → (M i = true → ∀ b, blk v = some b → w.heap.size ≤ b ∧ b < w'.heap.size) → K (({ a0 with tmps := fil2 a0.tmps vs es } : Act).put o.dst v) w') → o.wp P { a0 with tmps := fil2 a0.tmps vs es } w K Q)
    (hend : ∀ vs w, (∀ j, j < m → vs j = a0.tmps.getD (dstN ops j) undef) → Below w0.heap.size w0 w → (∀ i, m ≤ i → i < n → F i (vs i) w) → (∀ i j, m ≤ i → i < n → m ≤ j → j < n → i ≠ j → M i = true → M j = true → ∀ b, blk (vs i) = some b → blk (vs j) ≠ some b) → wpAnyLast P .any ops Q S ds fe l1 { a0 with tmps := fil2 a0.tmps vs es } w) :
    wpAnyLast P .any ops Q S ds fuel l0 a0 w0 := by
  have G := growLB_spec hB
  have e : ∀ vs, ({ a0 with tmps := fil2 a0.tmps vs es } : Act) = ap ops n a0 vs := fun vs => by
    rw [← hes, fil2_eq]
    rfl
  have hu : ∀ i, m ≤ i → i < n → l0.getD i false = true → False := fun i hm hi h => by
    obtain ⟨_, _, _, _, _, hu⟩ := G.at_ i hm hi
    have h1 : i < l0.size := by rw [G.sz]; have := G.lt; omega
    simp [h1] at hu h
    rw [hu] at h; cases h
  have H := last_of_grow (P := P) (Q := Q) (S := S) (ds := ds) (fe := fe) G (a0 := a0) (w0 := w0) (fun i => a0.tmps.getD (dstN ops i) undef) F M hS hmono
    (fun i o hm hi ho vs w hv hb K hK => by
      have := hstep i o hm hi ho vs w hv hb K (fun v w' h1 h2 h3 => by rw [e]; exact hK v w' h1 h2 h3)
      rwa [e] at this)
    (fun vs w hv hb hF hD => by have := hend vs w hv hb hF hD; rwa [e] at this)
    f l0 (fun i => a0.tmps.getD (dstN ops i) undef) w0 hf G.sz (fun _ _ => rfl) (fun _ _ => rfl) (fun i hm hi h => (hu i hm hi h).elim) (Below.refl _ _) (fun i hm hi h => (hu i hm hi h).elim) (fun i j hm hi _ _ h => (hu i hm hi h).elim)
  rw [ap_self a0 G.dis] at H
  rwa [hfe]
end
end Go.Proofs.YtanabbjakacgbaaDoor.Grow
namespace Go.Proofs.YtanabbjakacgbaaDoor.Sp
open Go.RowKit Go.Proofs.YtanabbjakacgbaaDoorW.PrintWords Go.Proofs.YtanabbjakacgbaaDoorW.PrintLast Go.Proofs.YtanabbjakacgbaaDoorW.PrintMore Go.Proofs.YtanabbjakacgbaaDoor.PM Go.Proofs.YtanabbjakacgbaaDoor.Grow
set_option linter.unusedVariables false
set_option linter.unusedSimpArgs false
set_option maxRecDepth 100000
attribute [local go_sem] Oper.semAt_some
section
variable {P : Program} {ops : Array Oper} {rest : List Oper} {o : Oper} {a : Act} {w : World} {Q : Exit → Act → World → Prop}
theorem wpList_store_run (hgd : o.guard = none) {ty : TypeId} {x y : Operand} (ho : o.op = .store ty x y) {ad : Addr} {v : Value} (hx : a.eval x = .pointer (some ad)) (hy : a.eval y = v) (W : World)
    (hrun : (storeVar ty ad v).run P w = .ok () W) (h : wpList P ops Q rest (a.put o.dst undef) W) : wpList P ops Q (o :: rest) a w := by
  refine wpList_plain hgd fun K hK => ?_
  unfold Oper.wp
  simp [execOp, ho, hx, hy, Instr.storeAt, Instr.sureAddr, hrun, Result.andThen, Sem.run_bind, Sem.run_map, Sem.run_pure]
  exact hK _ _ h
end
def Paused (p : Prop) : Prop := p
theorem pause_ {p : Prop} (h : Paused p) : p := h
theorem unpause_ {p : Prop} (h : p) : Paused p := h
def Bx (bs : List (Nat × Array Value)) (w : World) : Prop := ∀ x ∈ bs, w.heap[x.1]? = some (.cells x.2 36 (0, 0))
structure RfSt (wB : World) (g8 : Nat) (r : Sm) (bs : List (Nat × Array Value)) (w : World) : Prop where
  below : Below wB.heap.size wB w
  br : w.heap[g8]? = some (.cells (cS r) 27 (0, 0))
  bx : Bx bs w
section
variable {wB w w' : World} {g8 b : Nat} {r : Sm} {bs : List (Nat × Array Value)} {C C' : Array Value} {v : Value} {e : Int} {l : Lf}
theorem RfSt.next (h : RfSt wB g8 r bs w) (hb : Below w.heap.size w w') : RfSt wB g8 r bs w' := ⟨below_tr h.below hb h.below.size, at_next h.br hb, fun x hx => at_next (h.bx x hx) hb⟩
theorem RfSt.perm (h : RfSt wB g8 r bs w) {bs' : List (Nat × Array Value)} (hs : ∀ x ∈ bs', x ∈ bs) : RfSt wB g8 r bs' w := ⟨h.below, h.br, fun x hx => h.bx x (hs x hx)⟩
structure Alone (wB : World) (g8 b : Nat) (bs : List (Nat × Array Value)) : Prop where
  new : wB.heap.size ≤ b
  root : g8 ≠ b
  apart : ∀ x ∈ bs, x.1 ≠ b
theorem RfSt.set (h : RfSt wB g8 r ((b, C) :: bs) w) (ha : Alone wB g8 b bs) (hw : w'.heap[b]? = some (.cells C' 36 (0, 0))) (hk : ∀ k, k ≠ b → w'.heap[k]? = w.heap[k]?) (hbel : Below wB.heap.size wB w') : RfSt wB g8 r ((b, C') :: bs) w' :=
  ⟨hbel, (hk _ ha.root).trans h.br, fun x hx => by
    rcases List.mem_cons.1 hx with rfl | hx
    · exact hw
    · exact (hk _ (ha.apart x hx)).trans (h.bx x (List.mem_cons_of_mem _ hx))⟩
theorem RfSt.rot {x : Nat × Array Value} (h : RfSt wB g8 r (x :: bs) w) : RfSt wB g8 r (bs ++ [x]) w := h.perm fun y hy => by
  rcases List.mem_append.1 hy with hy | hy
  · exact List.mem_cons_of_mem _ hy
  · obtain rfl := List.mem_singleton.1 hy; exact List.mem_cons_self
theorem RfSt.one (h : RfSt wB g8 r ((b, C) :: bs) w) : w.heap[b]? = some (.cells C 36 (0, 0)) := h.bx (b, C) List.mem_cons_self
theorem RfSt.row (h : RfSt wB g8 r ((b, C) :: bs) w) (ha : Alone wB g8 b bs) : RfSt wB g8 r ((b, C') :: bs) (w.setRow b C') :=
  h.set ha (setRow_heap _ _ _ _ _ _ h.one) (fun k hk => setRow_other _ _ _ _ hk) (below_setRow h.below ha.new)
theorem RfSt.add (h : RfSt wB g8 r bs w) (Z C : Array Value) : RfSt wB g8 r ((w.heap.size, C) :: bs) ((w.alloc (.cells Z 36)).setRow w.heap.size C) ∧ Alone wB g8 w.heap.size bs ∧ Below w.heap.size w ((w.alloc (.cells Z 36)).setRow w.heap.size C) := by
  have hb : Below w.heap.size w ((w.alloc (.cells Z 36)).setRow w.heap.size C) := below_setRow (below_alloc (Below.refl _ _) _) (Nat.le_refl _)
  refine ⟨⟨(h.next hb).below, (h.next hb).br, fun x hx => ?_⟩, ⟨h.below.size, ?_, fun x hx => ?_⟩, hb⟩
  · rcases List.mem_cons.1 hx with rfl | hx
    · exact setRow_heap _ _ _ _ _ _ (h_new rfl)
    · exact (h.next hb).bx x hx
  · have := (Array.getElem?_eq_some_iff.1 h.br).1; omega
  · have := (Array.getElem?_eq_some_iff.1 (h.bx x hx)).1; omega
theorem RfSt.set0 (h : RfSt wB g8 r ((b, cP v e l) :: bs) w) (ha : Alone wB g8 b bs) (u : Value) : RfSt wB g8 r ((b, cP u e l) :: bs) (w.setCell ⟨b, 0, none⟩ u) :=
  h.set ha (set_P0 h.one) (fun k hk => heap_setCell_ne hk) (h.below.setCell (p := ⟨b, 0, none⟩) ha.new _)
theorem RfSt.set1 (h : RfSt wB g8 r ((b, cP v e l) :: bs) w) (ha : Alone wB g8 b bs) (e' : Int) : RfSt wB g8 r ((b, cP v e' l) :: bs) (w.setCell ⟨b, 1, none⟩ (.int .i64 e')) :=
  h.set ha (set_P1 e' h.one) (fun k hk => heap_setCell_ne hk) (h.below.setCell (p := ⟨b, 1, none⟩) ha.new _)
theorem RfSt.set2 (h : RfSt wB g8 r ((b, cP v e l) :: bs) w) (ha : Alone wB g8 b bs) (l' : Lf) : RfSt wB g8 r ((b, cP v e l') :: bs) (w.setCells b 2 (cL l').toList) :=
  h.set ha (set_P2 h.one) (fun k hk => heap_setCells_ne hk _ _ _) (below_setCells _ _ h.below ha.new)
theorem set_PK {t : Nat} (s : ByteArray) (hg : w.heap[b]? = some (.cells (cP v e l) t (0, 0))) : (w.setCell ⟨b, 2, none⟩ (.string s)).heap[b]? = some (.cells (cP v e ⟨s, l.v⟩) t (0, 0)) := by
  rw [heap_setCell_same w b 2 _ t _ hg, cP, cP, Array.setIfInBounds_append_right (by simp), cL, cL, Array.setIfInBounds_append_left (by simp)]
  rfl
theorem RfSt.setK (h : RfSt wB g8 r ((b, cP v e l) :: bs) w) (ha : Alone wB g8 b bs) (s : ByteArray) : RfSt wB g8 r ((b, cP v e ⟨s, l.v⟩) :: bs) (w.setCell ⟨b, 2, none⟩ (.string s)) :=
  h.set ha (set_PK s h.one) (fun k hk => heap_setCell_ne hk) (h.below.setCell (p := ⟨b, 2, none⟩) ha.new _)
theorem R_setCells' {α : Type} {d : Kd α} {e base o : Nat} {u : Value} {xs : List α} (h : d.R e w base (fun _ => True) u xs) (hg : b < base) (cs : List Value) : d.R e (w.setCells b o cs) base (fun _ => True) u xs :=
  Kd.R_mono (Kd.R_step (Kd.R_bound h) (fun k hk _ => heap_setCells_ne (by have := hk.2.1; omega) _ _ _)) (fun _ _ => trivial)
theorem run_c {ty : TypeId} {x : Value} (hi : (Tryd.prog.info? ty).map (·.size) = some 1) (hv : x.cells = #[x]) (h1 : x.oneCell' = true) (j : Nat) (hj : j < 35) (hg : w.heap[b]? = some (.cells (cP v e l) 36 (0, 0))) : (storeVar ty ⟨b, j, none⟩ x).run Tryd.prog w = .ok () (w.setCell ⟨b, j, none⟩ x) :=
  run_storeVar_cell rfl hv h1 hi (old := (cP v e l)[j]'(by rw [cP_size]; exact hj)) ((cell_of_row w b j _ _ _ hg).trans (Array.getElem?_eq_getElem (by rw [cP_size]; exact hj))) (frozen_of_row w b j _ _ hg)
end
theorem ld_Pf {w : World} {A : Option Addr} {n c : Nat} {e : Int} {l : Lf} {C : Array Value} {b : Nat} (hC : C = cP (.slice A n c) e l) (hg : w.heap[b]? = some (.cells C 36 (0, 0))) : (loadVar 36 ⟨b, 0, none⟩).run Tryd.prog w = .ok (.agg C) w := by
  rw [hC] at hg ⊢; exact ld_P hg 0
section
variable {ops : Array Oper} {rest : List Oper} {o : Oper} {a : Act} {w : World} {Q : Exit → Act → World → Prop}
theorem built_X : Tryd.prog.built 33 [(0, .string ⟨#[120]⟩)] = some (cL ⟨⟨#[120]⟩, zS⟩) := by kernel_rfl
theorem bld_X (hg : o.guard = none) (ho : o.op = .build 33 #[(0, .const (.string ⟨#[120]⟩))]) (lx : Lf) (hlx : lx = ⟨⟨#[120]⟩, zS⟩) (h : wpList Tryd.prog ops Q rest (a.put o.dst (.agg (cL lx))) w) : wpList Tryd.prog ops Q (o :: rest) a w := by
  refine wpList_built hg 33 _ ho (cL lx) ?_ h
  have e : (Array.map (fun x : Nat × Operand => (x.1, a.eval x.2)) #[(0, .const (.string ⟨#[120]⟩))]).toList = [(0, .string ⟨#[120]⟩)] := by
    have hc : a.eval (.const (.string ⟨#[120]⟩)) = .string ⟨#[120]⟩ := rfl
    simp [hc]
  rw [e, hlx]
  exact built_X
end
theorem CheckNo_calls {C : Array Value} {A : Option Addr} {c : Nat} {p : Pf} (hC : C = cP (.slice A p.p.length c) p.e p.l) (root : Sm) (k : ByteArray) (hk1 : k.size ≤ 100000) (hl1 : p.l.k.size ≤ 100000) (hlen : p.p.length ≤ 1000000) (w : World) (hW : Words w) (hr : kS.C w A p.p.length p.p) (q : Ck) (hq : q = zK) (hno : rightB k p.p.length p.e p.l = false) :
    Calls Tryd.prog 13 #[.agg (cS root), .string k, .agg C] w fun r w' => r = .returned (.agg (cK q)) ∧ Below w.heap.size w w' :=
  CheckP_calls hC root k hk1 hl1 hlen w hW hr q (by rw [hq]; exact ck_refused hno root)
theorem Prove4R_calls (l : List Lf) (k : ByteArray) (A : Option Addr) (c : Nat) (w : World) (hr : kL.R 33 w 0 (fun _ => True) (.slice A l.length c) l) (hl : SmL l) (hk1 : k.size ≤ 100000) (p : Pf) (hp : proveOf l k = p) :
    Calls Tryd.prog 17 #[.slice A l.length c, .string k] w fun e w' => ∃ A' c' C, C = cP (.slice A' p.p.length c') p.e p.l ∧ e = .returned (.agg C) ∧ kS.C w' A' p.p.length p.p ∧ Below w.heap.size w w' := by
  have h := Prove4_calls l k A c w (R_C hr).2.2 (R_C hr).2.1 hl hk1
  rw [hp] at h
  refine h.mono ?_
  rintro e w' ⟨A', c', rfl, h1, _, h3⟩
  exact ⟨A', c', _, rfl, rfl, h1, h3⟩
theorem Root4R_calls (l : List Lf) (A : Option Addr) (c : Nat) (w : World) (hr : kL.R 33 w 0 (fun _ => True) (.slice A l.length c) l) (hl : SmL l) (r : Sm) (hq : rootOf l = r) :
    Calls Tryd.prog 30 #[.slice A l.length c] w fun e w' => e = .returned (.agg (cS r)) ∧ Below w.heap.size w w' := by
  have h := Root4_calls l A c w (R_C hr).2.2 (R_C hr).2.1 hl
  rw [show hashOf (itemsOf l) 0 = r from hq] at h
  exact h
theorem two_kinds {w wx wy : World} {n t1 t2 : Nat} (hn : n = w.heap.size) {Z1 Z2 C D : Array Value} (hwx : (w.alloc (.cells Z1 t1)).alloc (.cells Z2 t2) = wx) (hwy : (wx.setRow n C).setRow (n + 1) D = wy) :
    wx.heap[n]? = some (.cells Z1 t1 (0, 0)) ∧ (wx.setRow n C).heap[n + 1]? = some (.cells Z2 t2 (0, 0)) ∧ wy.heap[n]? = some (.cells C t1 (0, 0)) ∧ wy.heap[n + 1]? = some (.cells D t2 (0, 0)) ∧ Below w.heap.size w wy := by
  have h0 : wx.heap[n]? = some (.cells Z1 t1 (0, 0)) := by rw [← hwx, h_old (by simp only [size_alloc]; omega)]; exact h_new hn
  have h1 : wx.heap[n + 1]? = some (.cells Z2 t2 (0, 0)) := by rw [← hwx]; exact h_new (by rw [size_alloc, hn])
  have h2 := (setRow_other wx n (n + 1) C (by omega)).trans h1
  rw [← hwy]
  refine ⟨h0, h2, (setRow_other _ _ _ _ (by omega)).trans (setRow_heap _ _ _ _ _ _ h0), setRow_heap _ _ _ _ _ _ h2, ?_⟩
  rw [← hwx]
  exact below_setRow (below_setRow (below_alloc (below_alloc (Below.refl _ _) _) _) (by omega)) (by omega)
def boxF (Z : Array Value) (B : Nat) (i : Nat) (v : Value) (w : World) : Prop := ∃ b, v = .pointer (some ⟨b, 0, none⟩) ∧ B ≤ b ∧ w.heap[b]? = some (.cells Z 36 (0, 0))
theorem boxF_mono (Z : Array Value) (B : Nat) : ∀ i v w w', boxF Z B i v w → Below w.heap.size w w' → boxF Z B i v w' := by
  rintro i v w w' ⟨b, h1, h2, h3⟩ hb
  exact ⟨b, h1, h2, at_next h3 hb⟩
def xB : ByteArray := ⟨#[120]⟩
theorem app_ne (k : ByteArray) : ¬ k ++ xB = k := fun e => by
  have := congrArg ByteArray.size e
  rw [ByteArray.size_append] at this
  have h1 : xB.size = 1 := rfl
  omega
set_option maxHeartbeats 4000000 in
theorem refuses_calls (a : List (Int × Int)) (ha : Oct a) (q0 q1 q2 q3 : Int) (hq0 : 0 ≤ q0 ∧ q0 < 256) (hq1 : 0 ≤ q1 ∧ q1 < 256) (hq2 : 0 ≤ q2 ∧ q2 < 256) (hq3 : 0 ≤ q3 ∧ q3 < 256) (A0 : Option Addr) (c0 : Nat) (w : World) (hW : Words w) (hr : kQ.C w A0 a.length a) (hc : a.length ≤ c0) :
    Calls Tryd.prog 8 #[.slice A0 a.length c0, .agg #[.int .u8 q0, .int .u8 q1, .int .u8 q2, .int .u8 q3]] w fun e w' => e = .returned (.bool true) ∧ Below w.heap.size w w' := by
  obtain ⟨QQ, hQQ⟩ : ∃ Q : Array Value, Q = #[.int .u8 q0, .int .u8 q1, .int .u8 q2, .int .u8 q3] := ⟨_, rfl⟩
  obtain ⟨g, hg⟩ : ∃ g, g = w.heap.size := ⟨_, rfl⟩
  obtain ⟨wb, hwb⟩ : ∃ wb, w.alloc (.cells QQ 39) = wb := ⟨_, rfl⟩
  have hb : Below w.heap.size w wb := by rw [← hwb]; exact below_alloc (Below.refl _ _) _
  have hgq : wb.heap[g]? = some (.cells QQ 39 (0, 0)) := by rw [← hwb]; exact h_new hg
  have HB := Aside0.mk (⟨hb, hgq, hW.below hb, Kd.C_below hr hb, hc⟩ : _ ∧ _ ∧ _ ∧ _ ∧ _)
  have HWB := Aside0.mk hwb
  have HG := Aside0.mk hg
  have HA := Aside0.mk ha
  obtain ⟨l, hl⟩ : ∃ l, madeOf (a.take 12) = l := ⟨_, rfl⟩
  have HL := Aside0.mk (⟨hl, by rw [← hl]; exact made_sm a 12 (by decide)⟩ : madeOf (a.take 12) = l ∧ SmL l)
  obtain ⟨r, hr0⟩ : ∃ r, rootOf l = r := ⟨_, rfl⟩
  obtain ⟨k, hk0⟩ : ∃ k, keyB q0 = k := ⟨_, rfl⟩
  have hks : k.size = 4 := by rw [← hk0]; rfl
  obtain ⟨p, hp⟩ : ∃ p, proveOf l k = p := ⟨_, rfl⟩
  have HR0 := Aside0.mk (⟨hr0, hk0, hp, hks, by rw [← hp]; exact prove_sm HL.out.2 _, by rw [← hp]; exact path_len l k⟩ : rootOf l = r ∧ keyB q0 = k ∧ proveOf l k = p ∧ k.size = 4 ∧ p.l.k.size ≤ 100000 ∧ p.p.length ≤ 256)
  have hce : ∀ W : World, W.heap[g]? = some (.cells QQ 39 (0, 0)) → W.cell? ⟨g, 0, none⟩ = some (.int .u8 q0) ∧ W.cell? ⟨g, 1, none⟩ = some (.int .u8 q1) ∧ W.cell? ⟨g, 2, none⟩ = some (.int .u8 q2) ∧ W.cell? ⟨g, 3, none⟩ = some (.int .u8 q3) := fun W h => by
    rw [hQQ] at h
    exact ⟨(cell_of_row W g 0 _ 39 _ h).trans rfl, (cell_of_row W g 1 _ 39 _ h).trans rfl, (cell_of_row W g 2 _ 39 _ h).trans rfl, (cell_of_row W g 3 _ 39 _ h).trans rfl⟩
  have HCE := Aside0.mk hce
  obtain ⟨Z36, hz36⟩ : ∃ Z, Z = cP (.slice none 0 0) 0 zL := ⟨_, rfl⟩
  have HZ36 := Aside0.mk (And.intro (show ∀ w, (zeroValue 36).run Tryd.prog w = .ok (.agg Z36) w by rw [hz36]; exact zero36) (show Z36.size = 35 by rw [hz36]; exact cP_size _ _ _))
  obtain ⟨lx, hlx⟩ : ∃ x : Lf, x = ⟨⟨#[120]⟩, zS⟩ := ⟨_, rfl⟩
  have HLX := Aside0.mk hlx
  rw [← hQQ]
  clear hlx hz36 hce hgq hb hW hr hc ha hl hr0 hk0 hp hks hwb hg hQQ
  go_enter Tryd.func8, Tryd.ntmps8
  go_wp2_with (first
    | (go_at_call 10; rw [HWB.out, ← HG.out]; (with_reducible refine (sanity_calls wb HB.out.2.2.1).mono ?_); rintro e w1 ⟨rfl, hb1⟩; have H1 := Aside0.mk (⟨below_tr HB.out.1 hb1 HB.out.1.size, HB.out.2.2.1.below hb1, Kd.C_below HB.out.2.2.2.1 hb1, at_next HB.out.2.1 hb1⟩ : _ ∧ _ ∧ _ ∧ _); clear hb1)
    | (go_at_call 11; (with_reducible refine (Made12_calls a HA.out A0 c0 w1 H1.out.2.2.1 HB.out.2.2.2.2 l HL.out.1).mono ?_); rintro e w2 ⟨A, c, rfl, hr2, hb2⟩; have H2 := Aside0.mk (⟨below_tr H1.out.1 hb2 H1.out.1.size, H1.out.2.1.below hb2, hr2, at_next H1.out.2.2.2 hb2⟩ : _ ∧ _ ∧ _ ∧ _); clear hr2 hb2; have hx0 := (HCE.out w2 H2.out.2.2.2).1)
    | (go_at_call 15; (with_reducible refine (Key_calls q0 hq0 w2).mono ?_); rw [HR0.out.2.1]; rintro e w3 ⟨rfl, hb3⟩; clear hx0; have H3 := Aside0.mk (⟨below_tr H2.out.1 hb3 H2.out.1.size, H2.out.2.1.below hb3, Kd.R_below H2.out.2.2.1 hb3, at_next H2.out.2.2.2 hb3⟩ : _ ∧ _ ∧ _ ∧ _); clear hb3)
    | (go_at_call 30; (with_reducible refine (Root4R_calls l A c w3 H3.out.2.2.1 HL.out.2 r HR0.out.1).mono ?_); rintro e w4 ⟨rfl, hb4⟩; have H4 := Aside0.mk (⟨below_tr H3.out.1 hb4 H3.out.1.size, H3.out.2.1.below hb4, Kd.R_below H3.out.2.2.1 hb4, at_next H3.out.2.2.2 hb4⟩ : _ ∧ _ ∧ _ ∧ _); clear hb4)
    | (go_at_call 17; have hks : k.size ≤ 100000 := (by have := HR0.out.2.2.2.1; omega); (with_reducible refine (Prove4R_calls l k A c w4 H4.out.2.2.1 HL.out.2 hks p HR0.out.2.2.1).mono ?_); clear hks; rintro e w5 ⟨A5, c5, C5, hC5, rfl, hp5, hb5⟩; have H5 := Aside0.mk (⟨below_tr H4.out.1 hb5 H4.out.1.size, H4.out.2.1.below hb5, hp5, at_next H4.out.2.2.2 hb5⟩ : _ ∧ _ ∧ _ ∧ _); have HC5 := Aside0.mk (⟨hC5, by rw [hC5, cP_size], by rw [hC5]; exact all_one (cP_one rfl _ _)⟩ : C5 = cP (.slice A5 p.p.length c5) p.e p.l ∧ C5.size = 35 ∧ C5.all (·.oneCell') = true); clear hp5 hb5 hC5)
    | ((with_reducible refine gate_dst (N := 8) rfl ?_); (refine wpList_allocz rfl 27 (cS zS) rfl zero27 ?_))
    | ((with_reducible refine gate_dst (N := 9) rfl ?_); (refine wpList_allocz rfl 36 Z36 rfl HZ36.out.1 ?_); rw [size_alloc]; obtain ⟨g8, hg8⟩ : ∃ g, g = w5.heap.size := ⟨_, rfl⟩; obtain ⟨wx, hwx⟩ : ∃ wx, (w5.alloc (.cells (cS zS) 27)).alloc (.cells Z36 36) = wx := ⟨_, rfl⟩; obtain ⟨wy, hwy⟩ : ∃ wy, (wx.setRow g8 (cS r)).setRow (g8 + 1) C5 = wy := ⟨_, rfl⟩; have HTK := Aside0.mk (two_kinds hg8 hwx hwy); have HWX := Aside0.mk hwx; have HWY := Aside0.mk hwy; rw [← hg8]; have HG8 := Aside0.mk hg8; clear hwx hwy hg8)
    | ((with_reducible refine gate_store (t := 27) rfl ?_); rw [HWX.out]; (refine wpList_store_row rfl 27 (.tmp 8) (.tmp 22) rfl g8 (cS r) rfl rfl 27 (cS zS) HTK.out.1 (by rw [cS_size]; kernel_rfl) (by rw [cS_size, cS_size]) (encI_one _) ?_))
    | ((with_reducible refine gate_store (t := 36) rfl ?_); (refine wpList_store_row rfl 36 (.tmp 9) (.tmp 25) rfl (g8 + 1) C5 rfl rfl 36 Z36 HTK.out.2.1 (by rw [HC5.out.2.1]; kernel_rfl) (by rw [HC5.out.2.1, HZ36.out.2]) HC5.out.2.2 ?_); (refine at_world (w' := wy) HWY.out ?_); have HY : Aside0 (RfSt w5 g8 r [(g8 + 1, C5)] wy) := Aside0.mk ⟨HTK.out.2.2.2.2, HTK.out.2.2.1, fun x hx => (by obtain rfl := List.mem_singleton.1 hx; exact HTK.out.2.2.2.1)⟩))
  refine start_ (n := 12) (S := fun w' => Below wy.heap.size wy w') (ds := []) #[false, false, false, false, false, false, false, false, false, false, false, false] (by kernel_rfl) rfl rfl (Below.refl _ _).drew (fun hHeld => ?_)
  refine take_ (i := 0) (N := some 26) (v := .agg C5) (a' := ?_) #[true, false, false, false, false, false, false, false, false, false, false, false] rfl rfl (by kernel_rfl) (fun _ _ _ h => h) (Or.inl ⟨by rfl, fun w' hS => yield_load _ _ rfl _ rfl (ld_Pf HC5.out.1 (HY.out.next hS).one)⟩) hHeld ?_ ?_
  rotate_left
  · simp only [Act.put, List.setIfInBounds_toArray, List.set_cons_zero, List.set_cons_succ, i64_w, i32_w]
    rfl
  refine take_ (i := 1) (N := some 27) (v := .agg C5) (a' := ?_) #[true, true, false, false, false, false, false, false, false, false, false, false] rfl rfl (by kernel_rfl) (fun _ _ _ h => h) (Or.inl ⟨by rfl, fun w' hS => yield_load _ _ rfl _ rfl (ld_Pf HC5.out.1 (HY.out.next hS).one)⟩) hHeld ?_ ?_
  rotate_left
  · simp only [Act.put, List.setIfInBounds_toArray, List.set_cons_zero, List.set_cons_succ, i64_w, i32_w]
    rfl
  refine take_ (i := 2) (N := some 28) (v := .agg C5) (a' := ?_) #[true, true, true, false, false, false, false, false, false, false, false, false] rfl rfl (by kernel_rfl) (fun _ _ _ h => h) (Or.inl ⟨by rfl, fun w' hS => yield_load _ _ rfl _ rfl (ld_Pf HC5.out.1 (HY.out.next hS).one)⟩) hHeld ?_ ?_
  rotate_left
  · simp only [Act.put, List.setIfInBounds_toArray, List.set_cons_zero, List.set_cons_succ, i64_w, i32_w]
    rfl
  refine take_ (i := 3) (N := some 29) (v := .agg C5) (a' := ?_) #[true, true, true, true, false, false, false, false, false, false, false, false] rfl rfl (by kernel_rfl) (fun _ _ _ h => h) (Or.inl ⟨by rfl, fun w' hS => yield_load _ _ rfl _ rfl (ld_Pf HC5.out.1 (HY.out.next hS).one)⟩) hHeld ?_ ?_
  rotate_left
  · simp only [Act.put, List.setIfInBounds_toArray, List.set_cons_zero, List.set_cons_succ, i64_w, i32_w]
    rfl
  refine makers_ (m := 4) (n := 8) (f := 4) (fe := 4) #[true, true, true, true, false, false, false, false, false, false, false, false] #[true, true, true, true, true, true, true, true, false, false, false, false] (by kernel_rfl) [26, 27, 28, 29, 10, 11, 12, 13] (by kernel_rfl) (by kernel_rfl) rfl (boxF Z36 wy.drew.heap.size) (fun _ => true) (fun _ h => below_tr hHeld h hHeld.size) (boxF_mono _ _) ?hstep ?hend
  case hstep =>
    intro i o hm hi ho vs w2 hv hb2 K hK
    have h0 := hv 0 (by decide)
    have h1 := hv 1 (by decide)
    have h2 := hv 2 (by decide)
    have h3 := hv 3 (by decide)
    simp only [fil2, List.zipIdx_cons, List.zipIdx_nil, List.foldl_cons, List.foldl_nil, List.setIfInBounds_toArray, List.set_cons_zero, List.set_cons_succ, Nat.zero_add, Nat.reduceAdd] at hK ⊢
    match i, hm, hi, ho, hK with
    | 4, _, _, ho, hK =>
      obtain rfl : _ = o := Option.some.inj ho
      exact gr_alloc 36 (.agg Z36) rfl HZ36.out.1 (hK _ _ ⟨_, rfl, hb2.size, h_new rfl⟩ (below_alloc (Below.refl _ _) _) (fun _ b hb => by obtain rfl := Option.some.inj hb; exact ⟨Nat.le_refl _, by rw [size_alloc]; exact Nat.lt_succ_self _⟩))
    | 5, _, _, ho, hK =>
      obtain rfl : _ = o := Option.some.inj ho
      exact gr_alloc 36 (.agg Z36) rfl HZ36.out.1 (hK _ _ ⟨_, rfl, hb2.size, h_new rfl⟩ (below_alloc (Below.refl _ _) _) (fun _ b hb => by obtain rfl := Option.some.inj hb; exact ⟨Nat.le_refl _, by rw [size_alloc]; exact Nat.lt_succ_self _⟩))
    | 6, _, _, ho, hK =>
      obtain rfl : _ = o := Option.some.inj ho
      exact gr_alloc 36 (.agg Z36) rfl HZ36.out.1 (hK _ _ ⟨_, rfl, hb2.size, h_new rfl⟩ (below_alloc (Below.refl _ _) _) (fun _ b hb => by obtain rfl := Option.some.inj hb; exact ⟨Nat.le_refl _, by rw [size_alloc]; exact Nat.lt_succ_self _⟩))
    | 7, _, _, ho, hK =>
      obtain rfl : _ = o := Option.some.inj ho
      exact gr_alloc 36 (.agg Z36) rfl HZ36.out.1 (hK _ _ ⟨_, rfl, hb2.size, h_new rfl⟩ (below_alloc (Below.refl _ _) _) (fun _ b hb => by obtain rfl := Option.some.inj hb; exact ⟨Nat.le_refl _, by rw [size_alloc]; exact Nat.lt_succ_self _⟩))
    | _ + 8, _, hi, _, _ => exact absurd hi (by omega)
  case hend =>
    intro vs w6 hv hb6 hF hD
    simp only [fil2, List.zipIdx_cons, List.zipIdx_nil, List.foldl_cons, List.foldl_nil, List.setIfInBounds_toArray, List.set_cons_zero, List.set_cons_succ, Nat.zero_add, Nat.reduceAdd]
    have f0 : vs 0 = .agg C5 := hv 0 (by decide)
    have f1 : vs 1 = .agg C5 := hv 1 (by decide)
    have f2 : vs 2 = .agg C5 := hv 2 (by decide)
    have f3 : vs 3 = .agg C5 := hv 3 (by decide)
    obtain ⟨b10, f4, B10, h10⟩ := hF 4 (by decide) (by decide)
    obtain ⟨b11, f5, B11, h11⟩ := hF 5 (by decide) (by decide)
    obtain ⟨b12, f6, B12, h12⟩ := hF 6 (by decide) (by decide)
    obtain ⟨b13, f7, B13, h13⟩ := hF 7 (by decide) (by decide)
    have n54 : b11 ≠ b10 := fun e => hD 4 5 (by decide) (by decide) (by decide) (by decide) (by decide) rfl rfl b10 (by rw [f4]; rfl) (by rw [f5, e]; rfl)
    have n64 : b12 ≠ b10 := fun e => hD 4 6 (by decide) (by decide) (by decide) (by decide) (by decide) rfl rfl b10 (by rw [f4]; rfl) (by rw [f6, e]; rfl)
    have n74 : b13 ≠ b10 := fun e => hD 4 7 (by decide) (by decide) (by decide) (by decide) (by decide) rfl rfl b10 (by rw [f4]; rfl) (by rw [f7, e]; rfl)
    have n65 : b12 ≠ b11 := fun e => hD 5 6 (by decide) (by decide) (by decide) (by decide) (by decide) rfl rfl b11 (by rw [f5]; rfl) (by rw [f6, e]; rfl)
    have n75 : b13 ≠ b11 := fun e => hD 5 7 (by decide) (by decide) (by decide) (by decide) (by decide) rfl rfl b11 (by rw [f5]; rfl) (by rw [f7, e]; rfl)
    have n76 : b13 ≠ b12 := fun e => hD 6 7 (by decide) (by decide) (by decide) (by decide) (by decide) rfl rfl b12 (by rw [f6]; rfl) (by rw [f7, e]; rfl)
    rw [f0, f1, f2, f3, f4, f5, f6, f7]
    clear f0 f1 f2 f3 f4 f5 f6 f7 hD hF hv
    have hw6 : Below wy.heap.size wy w6 := below_tr hHeld hb6 hHeld.size
    have hg8 := HG8.out
    have hl8 : g8 + 1 < wy.heap.size := (Array.getElem?_eq_some_iff.1 HY.out.one).1
    have B10 : wy.heap.size ≤ b10 := B10
    have B11 : wy.heap.size ≤ b11 := B11
    have B12 : wy.heap.size ≤ b12 := B12
    have B13 : wy.heap.size ≤ b13 := B13
    have hsz : wy.heap.size ≤ w6.heap.size := hw6.size
    have st0 : RfSt w5 g8 r [(b10, Z36), (b11, Z36), (b12, Z36), (b13, Z36), (g8 + 1, C5)] w6 := ⟨(HY.out.next hw6).below, (HY.out.next hw6).br, fun x hx => by
      simp only [List.mem_cons, List.not_mem_nil, or_false] at hx
      rcases hx with rfl | rfl | rfl | rfl | rfl
      · exact h10
      · exact h11
      · exact h12
      · exact h13
      · exact (HY.out.next hw6).one⟩
    have al10 : ∀ D1 D2 D3 D4, Alone w5 g8 b10 [(b11, D1), (b12, D2), (b13, D3), (g8 + 1, D4)] := fun D1 D2 D3 D4 => ⟨by omega, by omega, fun x hx => by
      simp only [List.mem_cons, List.not_mem_nil, or_false] at hx
      rcases hx with rfl | rfl | rfl | rfl <;> first | assumption | (dsimp only; omega)⟩
    have al11 : ∀ D1 D2 D3 D4, Alone w5 g8 b11 [(b12, D1), (b13, D2), (g8 + 1, D3), (b10, D4)] := fun D1 D2 D3 D4 => ⟨by omega, by omega, fun x hx => by
      simp only [List.mem_cons, List.not_mem_nil, or_false] at hx
      rcases hx with rfl | rfl | rfl | rfl <;> first | assumption | (dsimp only; omega)⟩
    have al12 : ∀ D1 D2 D3 D4, Alone w5 g8 b12 [(b13, D1), (g8 + 1, D2), (b10, D3), (b11, D4)] := fun D1 D2 D3 D4 => ⟨by omega, by omega, fun x hx => by
      simp only [List.mem_cons, List.not_mem_nil, or_false] at hx
      rcases hx with rfl | rfl | rfl | rfl <;> first | assumption | (dsimp only; omega)⟩
    have al13 : ∀ D1 D2 D3 D4, Alone w5 g8 b13 [(g8 + 1, D1), (b10, D2), (b11, D3), (b12, D4)] := fun D1 D2 D3 D4 => ⟨by omega, by omega, fun x hx => by
      simp only [List.mem_cons, List.not_mem_nil, or_false] at hx
      rcases hx with rfl | rfl | rfl | rfl <;> first | assumption | (dsimp only; omega)⟩
    have st1 : RfSt w5 g8 r [(b11, Z36), (b12, Z36), (b13, Z36), (g8 + 1, C5), (b10, C5)] (w6.setRow b10 C5) := (st0.row (C' := C5) (al10 _ _ _ _)).rot
    have st2 : RfSt w5 g8 r [(b12, Z36), (b13, Z36), (g8 + 1, C5), (b10, C5), (b11, C5)] ((w6.setRow b10 C5).setRow b11 C5) := (st1.row (C' := C5) (al11 _ _ _ _)).rot
    have st3 : RfSt w5 g8 r [(b13, Z36), (g8 + 1, C5), (b10, C5), (b11, C5), (b12, C5)] (((w6.setRow b10 C5).setRow b11 C5).setRow b12 C5) := (st2.row (C' := C5) (al12 _ _ _ _)).rot
    have st4 : RfSt w5 g8 r [(b10, C5), (b11, C5), (b12, C5), (b13, C5), (g8 + 1, C5)] ((((w6.setRow b10 C5).setRow b11 C5).setRow b12 C5).setRow b13 C5) := (st3.row (C' := C5) (al13 _ _ _ _)).rot.rot.perm (fun x hx => by
      simp only [List.mem_cons, List.not_mem_nil, or_false, List.cons_append, List.nil_append] at hx ⊢
      rcases hx with h | h | h | h | h <;> simp [h])
    have e8 : (Tryd.prog.info? 36).map (·.size) = some C5.size := by rw [HC5.out.2.1]; kernel_rfl
    have e9 : Z36.size = C5.size := by rw [HC5.out.2.1, HZ36.out.2]
    refine one_ (i := 8) (N := none) #[true, true, true, true, true, true, true, true, true, false, false, false] rfl rfl (by kernel_rfl) (by decide) (fun K hK => ?_)
    refine st_row (by rfl) rfl 36 (.tmp 10) (.tmp 26) rfl b10 C5 rfl rfl 36 Z36 st0.one e8 e9 HC5.out.2.2 ?_
    refine hK.out _ _ (below_setRow hw6 B10) (fun hHeld => ?_)
    clear hK K
    refine one_ (i := 9) (N := none) #[true, true, true, true, true, true, true, true, true, true, false, false] rfl rfl (by kernel_rfl) (by decide) (fun K hK => ?_)
    refine st_row (by rfl) rfl 36 (.tmp 11) (.tmp 27) rfl b11 C5 rfl rfl 36 Z36 st1.one e8 e9 HC5.out.2.2 ?_
    refine hK.out _ _ (below_setRow (below_setRow hw6 B10) B11) (fun hHeld => ?_)
    clear hK K
    refine one_ (i := 10) (N := none) #[true, true, true, true, true, true, true, true, true, true, true, false] rfl rfl (by kernel_rfl) (by decide) (fun K hK => ?_)
    refine st_row (by rfl) rfl 36 (.tmp 12) (.tmp 28) rfl b12 C5 rfl rfl 36 Z36 st2.one e8 e9 HC5.out.2.2 ?_
    refine hK.out _ _ (below_setRow (below_setRow (below_setRow hw6 B10) B11) B12) (fun hHeld => ?_)
    clear hK K
    refine one_ (i := 11) (N := none) #[true, true, true, true, true, true, true, true, true, true, true, true] rfl rfl (by kernel_rfl) (by decide) (fun K hK => ?_)
    refine st_row (by rfl) rfl 36 (.tmp 13) (.tmp 29) rfl b13 C5 rfl rfl 36 Z36 st3.one e8 e9 HC5.out.2.2 ?_
    refine hK.out _ _ (below_setRow (below_setRow (below_setRow (below_setRow hw6 B10) B11) B12) B13) (fun hHeld => ?_)
    clear hK K
    refine done_ (by kernel_rfl) ?_
    obtain ⟨y0, hy0⟩ : ∃ y, (((w6.setRow b10 C5).setRow b11 C5).setRow b12 C5).setRow b13 C5 = y := ⟨_, rfl⟩
    rw [hy0] at st4 ⊢
    obtain ⟨v5, hv5⟩ : ∃ v, v = Value.slice A5 p.p.length c5 := ⟨_, rfl⟩
    have hc5 : C5 = cP v5 p.e p.l := by rw [hv5]; exact HC5.out.1
    rw [hc5] at st4
    have ST := Aside0.mk st4
    have AL := Aside0.mk (⟨al10, al11, al12, al13⟩ : _ ∧ _ ∧ _ ∧ _)
    have HGB := Aside0.mk (fun (bs : List (Nat × Array Value)) (W : World) (h : RfSt w5 g8 r bs W) => HCE.out W (at_next H5.out.2.2.2 h.below))
    have HV5 := Aside0.mk (And.intro hv5 hc5)
    have hx1 := (HGB.out _ _ st4).2.1
    have hk4 : k.size = 4 := HR0.out.2.2.2.1
    clear st0 st1 st2 st3 st4 al10 al11 al12 al13 hv5 hc5 hy0 e8 e9 h10 h11 h12 h13 n54 n64 n74 n65 n75 n76 B10 B11 B12 B13 hw6 hHeld hb6 hg8 hl8 hsz
    go_wp2_with (first
      | ((with_reducible refine gate_store (t := 3) (p := 34) rfl ?_); refine wpList_store_run rfl rfl (ad := ⟨b10, 1, none⟩) (v := .int .i64 (3 + q1)) rfl rfl _ (run_c (by kernel_rfl) rfl rfl 1 (by decide) ST.out.one) ?_; obtain ⟨y1, hy1⟩ : ∃ W, y0.setCell ⟨b10, 1, none⟩ (.int .i64 (3 + q1)) = W := ⟨_, rfl⟩; refine at_world hy1 ?_; have ST1 := ST.out.set1 (AL.out.1 _ _ _ _) (3 + q1); rw [hy1] at ST1; have ST1 := Aside0.mk ST1; have hx2 := (HGB.out _ _ ST1.out).2.2.1; clear hx1 hy1)
      | ((with_reducible refine gate_dst (N := 40) rfl ?_); (refine Kd.R_make kS (w0 := y1) y1.heap.size 27 rfl (N := 40) rfl 34 _ _ rfl (257 + q2 % 3) rfl rfl Tryd.underlying34 (.agg (cS zS)) 32 infoS (cS_size _) (by decide) (by decide) zS (ok := fun _ => True) (okp := fun _ => False) rfl (fun _ hk => hk.elim) trivial (by omega) (by omega) (Below.refl _ _) (Nat.le_refl _) ?_); intro vm ym hrm hbm hgm hnm; obtain ⟨Am, cm, evm⟩ := Kd.R_slice hrm; subst evm; obtain ⟨m, hm⟩ : ∃ m, List.replicate (257 + q2 % 3).toNat zS = m := ⟨_, rfl⟩; rw [hm] at hrm ⊢; have hml : 256 < m.length ∧ m.length ≤ 1000 := (by rw [← hm, List.length_replicate]; omega); have st2 : RfSt w5 g8 r [(b11, cP v5 p.e p.l), (b12, cP v5 p.e p.l), (b13, cP v5 p.e p.l), (g8 + 1, cP v5 p.e p.l), (b10, cP v5 (3 + q1) p.l)] ym := (ST1.out.next hbm).rot; have hlt : b11 < y1.heap.size ∧ b12 < y1.heap.size ∧ b13 < y1.heap.size := ⟨(Array.getElem?_eq_some_iff.1 (ST1.out.rot).one).1, (Array.getElem?_eq_some_iff.1 (ST1.out.rot.rot).one).1, (Array.getElem?_eq_some_iff.1 (ST1.out.rot.rot.rot).one).1⟩; have HM := Aside0.mk (⟨hml, hrm, st2, hlt⟩ : _ ∧ _ ∧ _ ∧ _); clear hx2 hrm hbm hgm hnm hml hm st2 hlt)
      | ((with_reducible refine gate_store (t := 34) (p := 41) rfl ?_); refine wpList_store_run rfl rfl (ad := ⟨b11, 0, none⟩) (v := .slice Am m.length cm) rfl rfl _ (run_c (by kernel_rfl) rfl rfl 0 (by decide) HM.out.2.2.1.one) ?_; obtain ⟨y2, hy2⟩ : ∃ W, ym.setCell ⟨b11, 0, none⟩ (.slice Am m.length cm) = W := ⟨_, rfl⟩; refine at_world hy2 ?_; have st := HM.out.2.2.1.set0 (AL.out.2.1 _ _ _ _) (.slice Am m.length cm); have hr := R_setCell HM.out.2.1 HM.out.2.2.2.1 (.slice Am m.length cm) (j := 0); rw [hy2] at st hr; have ST2 := Aside0.mk (⟨(st.rot : RfSt w5 g8 r [(b12, cP v5 p.e p.l), (b13, cP v5 p.e p.l), (g8 + 1, cP v5 p.e p.l), (b10, cP v5 (3 + q1) p.l), (b11, cP (.slice Am m.length cm) p.e p.l)] y2), hr⟩ : _ ∧ _); clear st hr hy2)
      | ((with_reducible refine gate_dst (N := 42) rfl ?_); (refine bld_X rfl rfl lx HLX.out ?_))
      | ((with_reducible refine gate_store (t := 3) (p := 43) rfl ?_); refine wpList_store_run rfl rfl (ad := ⟨b12, 1, none⟩) (v := .int .i64 0) rfl rfl _ (run_c (by kernel_rfl) rfl rfl 1 (by decide) ST2.out.1.one) ?_; obtain ⟨y3, hy3⟩ : ∃ W, y2.setCell ⟨b12, 1, none⟩ (.int .i64 0) = W := ⟨_, rfl⟩; refine at_world hy3 ?_; have st := ST2.out.1.set1 (AL.out.2.2.1 _ _ _ _) 0; have hr := R_setCell ST2.out.2 HM.out.2.2.2.2.1 (.int .i64 0) (j := 1); rw [hy3] at st hr; have ST3 := Aside0.mk (And.intro st hr); clear st hr hy3)
      | ((with_reducible refine gate_store (t := 33) (p := 44) rfl ?_); refine wpList_store_run rfl rfl (ad := ⟨b12, 2, none⟩) (v := .agg (cL lx)) rfl rfl _ (run_storeVar_mid y3 b12 2 33 (cL lx) (by rw [cL_size]; exact there_P2 ST3.out.1.one) (by rw [cL_size]; kernel_rfl) (all_one (cL_one _))) ?_; obtain ⟨y4, hy4⟩ : ∃ W, y3.setCells b12 2 (cL lx).toList = W := ⟨_, rfl⟩; refine at_world hy4 ?_; have st := ST3.out.1.set2 (AL.out.2.2.1 _ _ _ _) lx; have hr := R_setCells' ST3.out.2 HM.out.2.2.2.2.1 (cL lx).toList (o := 2); rw [hy4] at st hr; have ST4 := Aside0.mk (⟨(st.rot : RfSt w5 g8 r [(b13, cP v5 p.e p.l), (g8 + 1, cP v5 p.e p.l), (b10, cP v5 (3 + q1) p.l), (b11, cP (.slice Am m.length cm) p.e p.l), (b12, cP v5 0 lx)] y4), hr⟩ : _ ∧ _); clear st hr hy4)
      | ((with_reducible refine gate_store (t := 3) (p := 47) rfl ?_); refine wpList_store_run rfl rfl (ad := ⟨b13, 1, none⟩) (v := .int .i64 1) rfl rfl _ (run_c (by kernel_rfl) rfl rfl 1 (by decide) ST4.out.1.one) ?_; obtain ⟨y5, hy5⟩ : ∃ W, y4.setCell ⟨b13, 1, none⟩ (.int .i64 1) = W := ⟨_, rfl⟩; refine at_world hy5 ?_; have st := ST4.out.1.set1 (AL.out.2.2.2 _ _ _ _) 1; have hr := R_setCell ST4.out.2 HM.out.2.2.2.2.2 (.int .i64 1) (j := 1); rw [hy5] at st hr; have ST5 := Aside0.mk (And.intro st hr); clear st hr hy5)
      | ((with_reducible refine gate_store (t := 9) (p := 49) rfl ?_); refine wpList_store_run rfl rfl (ad := ⟨b13, 2, none⟩) (v := .string (k ++ xB)) rfl rfl _ (run_c (by kernel_rfl) rfl rfl 2 (by decide) ST5.out.1.one) ?_; obtain ⟨y6, hy6⟩ : ∃ W, y5.setCell ⟨b13, 2, none⟩ (.string (k ++ xB)) = W := ⟨_, rfl⟩; refine at_world hy6 ?_; have st := ST5.out.1.setK (AL.out.2.2.2 _ _ _ _) (k ++ xB); have hr := R_setCell ST5.out.2 HM.out.2.2.2.2.2 (.string (k ++ xB)) (j := 2); rw [hy6] at st hr; have ST6 := Aside0.mk (⟨(st.rot : RfSt w5 g8 r [(g8 + 1, cP v5 p.e p.l), (b10, cP v5 (3 + q1) p.l), (b11, cP (.slice Am m.length cm) p.e p.l), (b12, cP v5 0 lx), (b13, cP v5 1 ⟨k ++ xB, p.l.v⟩)] y6), (R_C hr).2.2⟩ : _ ∧ _); clear st hr hy6)
      | ((with_reducible refine gate_dst (N := 50) rfl ?_); (refine wpList_loadv rfl 36 _ rfl _ rfl _ (ld_Pf HC5.out.1 (by rw [HV5.out.2]; exact ST6.out.1.one)) ?_))
      | ((with_reducible refine gate_dst (N := 14) rfl ?_); (refine wpList_allocz rfl 36 Z36 rfl HZ36.out.1 ?_); obtain ⟨b14, hb14⟩ : ∃ b, b = y6.heap.size := ⟨_, rfl⟩; rw [← hb14]; have HB14 := Aside0.mk hb14; clear hb14)
      | ((with_reducible refine gate_store (t := 36) (p := 14) rfl ?_); (refine wpList_store_row rfl 36 (.tmp 14) (.tmp 50) rfl b14 C5 rfl rfl 36 Z36 (h_new HB14.out) (by rw [HC5.out.2.1]; kernel_rfl) (by rw [HC5.out.2.1, HZ36.out.2]) HC5.out.2.2 ?_); have hadd := ST6.out.1.add Z36 C5; rw [← HB14.out] at hadd; obtain ⟨y7, hy7⟩ : ∃ W, (y6.alloc (.cells Z36 36)).setRow b14 C5 = W := ⟨_, rfl⟩; refine at_world hy7 ?_; rw [hy7, HV5.out.2] at hadd; have hx3 := (HGB.out _ _ hadd.1).2.2.2; have ST7 := Aside0.mk hadd; clear hadd hy7)
      | ((with_reducible refine gate_store (t := 3) (p := 55) rfl ?_); refine wpList_store_run rfl rfl (ad := ⟨b14, 1, none⟩) (v := .int .i64 (-1 - q3)) rfl rfl _ (run_c (by kernel_rfl) rfl rfl 1 (by decide) ST7.out.1.one) ?_; obtain ⟨z0, hz0⟩ : ∃ W, y7.setCell ⟨b14, 1, none⟩ (.int .i64 (-1 - q3)) = W := ⟨_, rfl⟩; refine at_world hz0 ?_; have st := ST7.out.1.set1 ST7.out.2.1 (-1 - q3); have hbz : Below y6.heap.size y6 z0 := (by rw [← hz0, ← HB14.out]; exact ST7.out.2.2.setCell (p := ⟨b14, 1, none⟩) (Nat.le_refl _) _); rw [hz0] at st; have SZ := Aside0.mk (And.intro st hbz); clear hx3 hz0 st hbz; refine pause_ ?_))
    have hks := HR0.out.2.2.2.1
    have hkp := HR0.out.2.2.2.2.2
    have hlk := HR0.out.2.2.2.2.1
    have hlz : lx.k.size ≤ 100000 := by rw [HLX.out]; show (⟨#[120]⟩ : ByteArray).size ≤ 100000; decide
    obtain ⟨qk, hqk⟩ : ∃ q : Ck, q = zK := ⟨_, rfl⟩
    have hbd : Tryd.prog.built 30 [] = some (cK qk) := by rw [hqk]; kernel_rfl
    have hv5 := HV5.out.1
    obtain ⟨C10, hC10⟩ : ∃ C, C = cP v5 (3 + q1) p.l := ⟨_, rfl⟩
    obtain ⟨C11, hC11⟩ : ∃ C, C = cP (.slice Am m.length cm) p.e p.l := ⟨_, rfl⟩
    obtain ⟨C12, hC12⟩ : ∃ C, C = cP v5 0 lx := ⟨_, rfl⟩
    obtain ⟨C13, hC13⟩ : ∃ C, C = cP v5 1 ⟨k ++ xB, p.l.v⟩ := ⟨_, rfl⟩
    obtain ⟨C14, hC14⟩ : ∃ C, C = cP v5 (-1 - q3) p.l := ⟨_, rfl⟩
    have hst : RfSt w5 g8 r [(b14, C14), (g8 + 1, cP v5 p.e p.l), (b10, C10), (b11, C11), (b12, C12), (b13, C13)] z0 := by rw [hC10, hC11, hC12, hC13, hC14]; exact SZ.out.1
    rw [hv5] at hC10 hC12 hC13 hC14
    have hN : ∀ W, Below z0.heap.size z0 W → RfSt w5 g8 r [(b14, C14), (g8 + 1, cP v5 p.e p.l), (b10, C10), (b11, C11), (b12, C12), (b13, C13)] W := fun W hb => hst.next hb
    have hWN : ∀ W, Below z0.heap.size z0 W → Words W ∧ kS.C W A5 p.p.length p.p ∧ kS.C W Am m.length m := fun W hb => ⟨H5.out.2.1.below (hN W hb).below, Kd.C_below H5.out.2.2.1 (hN W hb).below, Kd.C_below ST6.out.2 (below_tr SZ.out.2 hb SZ.out.2.size)⟩
    have HF := Aside0.mk (⟨fun W hb => ld_S (hN W hb).br 0, fun W hb => ld_Pf hC10 ((hN W hb).bx (b10, C10) (by simp)), fun W hb => ld_Pf hC11 ((hN W hb).bx (b11, C11) (by simp)), fun W hb => ld_Pf hC12 ((hN W hb).bx (b12, C12) (by simp)), fun W hb => ld_Pf hC13 ((hN W hb).bx (b13, C13) (by simp)), fun W hb => ld_Pf hC14 ((hN W hb).bx (b14, C14) (by simp)), fun W hb => below_tr H5.out.1 (hN W hb).below H5.out.1.size⟩ :
      (∀ W, Below z0.heap.size z0 W → (loadVar 27 ⟨g8, 0, none⟩).run Tryd.prog W = .ok (.agg (cS r)) W) ∧
      (∀ W, Below z0.heap.size z0 W → (loadVar 36 ⟨b10, 0, none⟩).run Tryd.prog W = .ok (.agg C10) W) ∧
      (∀ W, Below z0.heap.size z0 W → (loadVar 36 ⟨b11, 0, none⟩).run Tryd.prog W = .ok (.agg C11) W) ∧
      (∀ W, Below z0.heap.size z0 W → (loadVar 36 ⟨b12, 0, none⟩).run Tryd.prog W = .ok (.agg C12) W) ∧
      (∀ W, Below z0.heap.size z0 W → (loadVar 36 ⟨b13, 0, none⟩).run Tryd.prog W = .ok (.agg C13) W) ∧
      (∀ W, Below z0.heap.size z0 W → (loadVar 36 ⟨b14, 0, none⟩).run Tryd.prog W = .ok (.agg C14) W) ∧
      (∀ W, Below z0.heap.size z0 W → Below w.heap.size w W))
    have CK10 := Aside0.mk (fun W hb => CheckNo_calls (p := ⟨p.p, 3 + q1, p.l⟩) hC10 r k (by omega) hlk (by show p.p.length ≤ _; omega) W (hWN W hb).1 (hWN W hb).2.1 qk hqk (right_end (by show ¬ 3 + q1 = 0; omega) (by show ¬ 3 + q1 = 1; omega) (by show ¬ 3 + q1 = 2; omega) _ _ _) :
      ∀ W, Below z0.heap.size z0 W → Calls Tryd.prog 13 #[.agg (cS r), .string k, .agg C10] W fun r w' => r = .returned (.agg (cK qk)) ∧ Below W.heap.size W w')
    have CK11 := Aside0.mk (fun W hb => CheckNo_calls (p := ⟨m, p.e, p.l⟩) hC11 r k (by omega) hlk (by show m.length ≤ _; have := HM.out.1; omega) W (hWN W hb).1 (hWN W hb).2.2 qk hqk (right_long HM.out.1.1 _ _ _) :
      ∀ W, Below z0.heap.size z0 W → Calls Tryd.prog 13 #[.agg (cS r), .string k, .agg C11] W fun r w' => r = .returned (.agg (cK qk)) ∧ Below W.heap.size W w')
    have CK12 := Aside0.mk (fun W hb => CheckNo_calls (p := ⟨p.p, 0, lx⟩) hC12 r k (by omega) hlz (by show p.p.length ≤ _; omega) W (hWN W hb).1 (hWN W hb).2.1 qk hqk (right_leaf (show ¬ lx = zL by rw [HLX.out]; decide) _ _) :
      ∀ W, Below z0.heap.size z0 W → Calls Tryd.prog 13 #[.agg (cS r), .string k, .agg C12] W fun r w' => r = .returned (.agg (cK qk)) ∧ Below W.heap.size W w')
    have CK13 := Aside0.mk (fun W hb => CheckNo_calls (p := ⟨p.p, 1, ⟨k ++ xB, p.l.v⟩⟩) hC13 r k (by omega) (by show (k ++ xB).size ≤ _; rw [ByteArray.size_append]; have h1 : xB.size = 1 := rfl; omega) (by show p.p.length ≤ _; omega) W (hWN W hb).1 (hWN W hb).2.1 qk hqk (right_other (app_ne k) _) :
      ∀ W, Below z0.heap.size z0 W → Calls Tryd.prog 13 #[.agg (cS r), .string k, .agg C13] W fun r w' => r = .returned (.agg (cK qk)) ∧ Below W.heap.size W w')
    have CK14 := Aside0.mk (fun W hb => CheckNo_calls (p := ⟨p.p, -1 - q3, p.l⟩) hC14 r k (by omega) hlk (by show p.p.length ≤ _; omega) W (hWN W hb).1 (hWN W hb).2.1 qk hqk (right_end (by show ¬ -1 - q3 = 0; omega) (by show ¬ -1 - q3 = 1; omega) (by show ¬ -1 - q3 = 2; omega) _ _ _) :
      ∀ W, Below z0.heap.size z0 W → Calls Tryd.prog 13 #[.agg (cS r), .string k, .agg C14] W fun r w' => r = .returned (.agg (cK qk)) ∧ Below W.heap.size W w')
    have HBD := Aside0.mk hbd
    clear hks hkp hlk hlz hqk hbd hv5 hC10 hC11 hC12 hC13 hC14 hst hN hWN ST ST1 ST2 ST3 ST4 ST5 ST6 ST7 SZ HM AL HGB HV5 HB14 HY HTK HWX HWY HG8 H1 H2 H3 H4
    have Z0 := Aside0.mk (Below.refl z0.heap.size z0)
    refine unpause_ ?_
    as_aux_lemma =>
      go_wp2_with (first
        | ((with_reducible refine gate_dst (N := 56) rfl ?_); (refine wpList_loadv rfl 27 _ rfl _ rfl _ (HF.out.1 z0 Z0.out) ?_))
        | ((with_reducible refine gate_dst (N := 58) rfl ?_); (refine wpList_loadv rfl 36 _ rfl _ rfl _ (HF.out.2.1 z0 Z0.out) ?_))
        | (go_at_call 13; (with_reducible refine (CK10.out z0 Z0.out).mono ?_); rintro e z1 ⟨rfl, hb⟩; have Z1 := Aside0.mk hb; clear hb)
        | ((with_reducible refine gate_dst (N := 60) rfl ?_); (refine wpList_built0 rfl 30 rfl (cK qk) HBD.out ?_))
        | ((with_reducible refine gate_dst (N := 61) rfl ?_); refine wpList_eql rfl _ _ _ _ rfl _ _ rfl rfl gt_K _ (fun w => eqK_r w qk) ?_)
        | ((with_reducible refine gate_dst (N := 63) rfl ?_); refine wpList_wanted (by rfl) ?_; (refine wpList_loadv rfl 27 _ rfl _ rfl _ (HF.out.1 z1 Z1.out) ?_))
        | ((with_reducible refine gate_dst (N := 65) rfl ?_); refine wpList_wanted (by rfl) ?_; (refine wpList_loadv rfl 36 _ rfl _ rfl _ (HF.out.2.2.1 z1 Z1.out) ?_))
        | (go_at_call 13; (with_reducible refine (CK11.out z1 Z1.out).mono ?_); rintro e z2 ⟨rfl, hb⟩; have Z2 := Aside0.mk (below_tr Z1.out hb Z1.out.size); clear hb)
        | ((with_reducible refine gate_dst (N := 67) rfl ?_); refine wpList_wanted (by rfl) ?_; (refine wpList_built0 rfl 30 rfl (cK qk) HBD.out ?_))
        | ((with_reducible refine gate_dst (N := 68) rfl ?_); refine wpList_wanted (by rfl) ?_; refine wpList_eql rfl _ _ _ _ rfl _ _ rfl rfl gt_K _ (fun w => eqK_r w qk) ?_)
        | ((with_reducible refine gate_dst (N := 71) rfl ?_); refine wpList_wanted (by rfl) ?_; (refine wpList_loadv rfl 27 _ rfl _ rfl _ (HF.out.1 z2 Z2.out) ?_))
        | ((with_reducible refine gate_dst (N := 73) rfl ?_); refine wpList_wanted (by rfl) ?_; (refine wpList_loadv rfl 36 _ rfl _ rfl _ (HF.out.2.2.2.1 z2 Z2.out) ?_))
        | (go_at_call 13; (with_reducible refine (CK12.out z2 Z2.out).mono ?_); rintro e z3 ⟨rfl, hb⟩; have Z3 := Aside0.mk (below_tr Z2.out hb Z2.out.size); clear hb)
        | ((with_reducible refine gate_dst (N := 75) rfl ?_); refine wpList_wanted (by rfl) ?_; (refine wpList_built0 rfl 30 rfl (cK qk) HBD.out ?_))
        | ((with_reducible refine gate_dst (N := 76) rfl ?_); refine wpList_wanted (by rfl) ?_; refine wpList_eql rfl _ _ _ _ rfl _ _ rfl rfl gt_K _ (fun w => eqK_r w qk) ?_)
        | ((with_reducible refine gate_dst (N := 79) rfl ?_); refine wpList_wanted (by rfl) ?_; (refine wpList_loadv rfl 27 _ rfl _ rfl _ (HF.out.1 z3 Z3.out) ?_))
        | ((with_reducible refine gate_dst (N := 81) rfl ?_); refine wpList_wanted (by rfl) ?_; (refine wpList_loadv rfl 36 _ rfl _ rfl _ (HF.out.2.2.2.2.1 z3 Z3.out) ?_))
        | (go_at_call 13; (with_reducible refine (CK13.out z3 Z3.out).mono ?_); rintro e z4 ⟨rfl, hb⟩; have Z4 := Aside0.mk (below_tr Z3.out hb Z3.out.size); clear hb)
        | ((with_reducible refine gate_dst (N := 83) rfl ?_); refine wpList_wanted (by rfl) ?_; (refine wpList_built0 rfl 30 rfl (cK qk) HBD.out ?_))
        | ((with_reducible refine gate_dst (N := 84) rfl ?_); refine wpList_wanted (by rfl) ?_; refine wpList_eql rfl _ _ _ _ rfl _ _ rfl rfl gt_K _ (fun w => eqK_r w qk) ?_)
        | ((with_reducible refine gate_dst (N := 87) rfl ?_); refine wpList_wanted (by rfl) ?_; (refine wpList_loadv rfl 27 _ rfl _ rfl _ (HF.out.1 z4 Z4.out) ?_))
        | ((with_reducible refine gate_dst (N := 89) rfl ?_); refine wpList_wanted (by rfl) ?_; (refine wpList_loadv rfl 36 _ rfl _ rfl _ (HF.out.2.2.2.2.2.1 z4 Z4.out) ?_))
        | (go_at_call 13; (with_reducible refine (CK14.out z4 Z4.out).mono ?_); rintro e z5 ⟨rfl, hb⟩; have Z5 := Aside0.mk (below_tr Z4.out hb Z4.out.size); clear hb)
        | ((with_reducible refine gate_dst (N := 91) rfl ?_); refine wpList_wanted (by rfl) ?_; (refine wpList_built0 rfl 30 rfl (cK qk) HBD.out ?_))
        | ((with_reducible refine gate_dst (N := 92) rfl ?_); refine wpList_wanted (by rfl) ?_; refine wpList_eql rfl _ _ _ _ rfl _ _ rfl rfl gt_K _ (fun w => eqK_r w qk) ?_))
      go_ret
      exact ⟨rfl, HF.out.2.2.2.2.2.2 z5 Z5.out⟩
end Go.Proofs.YtanabbjakacgbaaDoor.Sp

