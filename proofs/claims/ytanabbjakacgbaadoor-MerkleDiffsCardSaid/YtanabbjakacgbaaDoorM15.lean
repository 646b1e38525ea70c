/- Put together by this session's program out of: Gt So. -/
import Derived.Test.YtanabbjakacgbaaDoorM14
import Derived.Test.YtanabbjakacgbaaDoorM13
namespace Go.Proofs.YtanabbjakacgbaaDoor.Grow
open Go Go.RowKit Go.Proofs.YtanabbjakacgbaaDoorW.PrintWords Go.Proofs.YtanabbjakacgbaaDoorW.PrintLast
set_option linter.unusedVariables false
set_option linter.unusedSimpArgs false
section
variable {P : Program} {ops : Array Oper} {Q : Exit → Act → World → Prop} {S : World → Prop} {ds : List Nat}
def growMB (ops : Array Oper) (m n : Nat) (l0 l1 : Array Bool) : Bool :=
  decide (n < ops.size) && decide (l0.size = ops.size) && decide (l1.size = ops.size) &&
  ((List.range n).all fun i => decide (i < m) || match ops[i]? with
    | some o => o.dst.isSome && o.guard.isNone && (o.after.all fun e => !Region.binds .any e || l0.getD e.on false || (decide (m ≤ e.on) && decide (e.on < i))) && !l0.getD i true
    | none => false) &&
  ((List.range n).all fun i => (List.range n).all fun k => decide (i = k) || decide (dstN ops i ≠ dstN ops k)) &&
  ((List.range ops.size).all fun i => (decide (m ≤ i) && decide (i < n)) || l0.getD i true || (List.range n).all fun j => decide (j < m) || Region.reachB .any ops j 8 i) && Region.closedB .any ops l0 &&
  ((List.range ops.size).all fun i => l1.getD i false == ((decide (m ≤ i) && decide (i < n)) || l0.getD i false))
structure GrowM (ops : Array Oper) (m n : Nat) (l0 l1 : Array Bool) : Prop where
  lt : n < ops.size
  sz : l0.size = ops.size
  sz1 : l1.size = ops.size
  at_ : ∀ i, m ≤ i → i < n → ∃ o, ops[i]? = some o ∧ o.dst = some (dstN ops i) ∧ o.guard = none ∧ (∀ e ∈ o.after, Region.binds .any e = true → l0.getD e.on false = true ∨ (m ≤ e.on ∧ e.on < i)) ∧ l0.getD i true = false
  dis : ∀ j k, j < n → k < n → dstN ops j = dstN ops k → j = k
  wait : ∀ i, i < ops.size → l0.getD i true = false → ¬ (m ≤ i ∧ i < n) → ∀ j, m ≤ j → j < n → Region.reachB .any ops j 8 i = true
  closed : ListedClosed .any ops l0
  fin : ∀ i, i < ops.size → l1.getD i false = ((decide (m ≤ i) && decide (i < n)) || l0.getD i false)
theorem growMB_spec {m n : Nat} {l0 l1 : Array Bool} (h : growMB ops m n l0 l1 = true) : GrowM ops m n l0 l1 := by
  simp only [growMB, Bool.and_eq_true, decide_eq_true_eq, List.all_eq_true, List.mem_range, Bool.or_eq_true, beq_iff_eq] at h
  obtain ⟨⟨⟨⟨⟨⟨⟨h1, h2⟩, h3⟩, h4⟩, h5⟩, h6⟩, h8⟩, h7⟩ := h
  refine ⟨h1, h2, h3, fun i hm hi => ?_, fun j k hj hk e => ?_, fun i hi hu hn j hmj hj => ?_, Region.closedB_spec h8, fun i hi => h7 i hi⟩
  · rcases h4 i hi with h | h
    · omega
    · cases ho : ops[i]? with
      | none => rw [ho] at h; cases h
      | some o =>
        rw [ho] at h
        simp only [Bool.and_eq_true] at h
        obtain ⟨⟨⟨a, b⟩, c⟩, d⟩ := h
        obtain ⟨N, hN⟩ := Option.isSome_iff_exists.1 a
        refine ⟨o, rfl, by simp [dstN, ho, hN], Option.isNone_iff_eq_none.1 b, fun e he hb => ?_, by simpa using d⟩
        have := Array.all_eq_true_iff_forall_mem.1 c e he
        rw [hb] at this
        simpa using this
  · rcases h5 j hj k hk with h | h
    · exact h
    · exact absurd e h
  · rcases h6 i hi with (h | h) | h
    · exact absurd h hn
    · rw [hu] at h; cases h
    · rcases h j hj with h | h
      · omega
      · exact h
theorem last_of_grow2 {m n fe : Nat} {l0 l1 : Array Bool} (G : GrowM ops m n l0 l1) {a0 : Act} {w0 : World} (v0 : Nat → Value) (F : Nat → Value → World → Prop) (M : Nat → Bool) (hS : ∀ w, Below w0.heap.size w0 w → S w) (hmono : ∀ i v w w', F i v w → Below w.heap.size w w' → F i v w')
    (hstep : ∀ i o, m ≤ i → i < n → ops[i]? = some o → ∀ vs w, (∀ j, j < m → vs j = v0 j) → Below w0.heap.size w0 w → (∀ e ∈ o.after, Region.binds .any e = true → m ≤ e.on → e.on < i → l0.getD e.on false = false → F e.on (vs e.on) w) → ∀ K : Act → World → Prop, (∀ v w', F i v w' → Below w.heap.size w w' → (M i = true → ∀ b, blk v = some b → w.heap.size ≤ b ∧ b < w'.heap.size) → K ((ap ops n a0 vs).put o.dst v) w') → o.wp P (ap ops n a0 vs) w K Q)
    (hend : ∀ vs w, (∀ j, j < m → vs j = v0 j) → Below w0.heap.size w0 w → (∀ i, m ≤ i → i < n → F i (vs i) w) → (∀ i j, m ≤ i → i < n → m ≤ j → j < n → i ≠ j → M i = true → M j = true → ∀ b, blk (vs i) = some b → blk (vs j) ≠ some b) → wpAnyLast P .any ops Q S ds fe l1 (ap ops n a0 vs) w) :
    ∀ (f : Nat) (l : Array Bool) (vs : Nat → Value) (w : World), (List.range n).countP (fun i => decide (m ≤ i) && !l.getD i false) = f → l.size = ops.size → ListedClosed .any ops l → (∀ j, ¬ (m ≤ j ∧ j < n) → l[j]? = l0[j]?) → (∀ j, j < m → vs j = v0 j) → (∀ i, m ≤ i → i < n → l.getD i false = true → F i (vs i) w) → Below w0.heap.size w0 w →
      (∀ i, m ≤ i → i < n → l.getD i false = true → M i = true → ∀ b, blk (vs i) = some b → b < w.heap.size) → (∀ i j, m ≤ i → i < n → m ≤ j → j < n → l.getD i false = true → l.getD j false = true → i ≠ j → M i = true → M j = true → ∀ b, blk (vs i) = some b → blk (vs j) ≠ some b) →
      wpAnyLast P .any ops Q S ds (f + fe) l (ap ops n a0 vs) w := by
  intro f
  induction f with
  | zero =>
    intro l vs w hf hsz hcl hl hv hF hb hD1 hD2
    have hall : ∀ i, m ≤ i → i < n → l.getD i false = true := fun i hm hi => by
      have := List.countP_eq_zero.1 hf i (List.mem_range.2 hi)
      simpa [hm] using this
    have e : l = l1 := by
      apply Array.ext (hsz.trans G.sz1.symm)
      intro i h1 h2
      have h3 : i < ops.size := by omega
      have h4 := G.fin i h3
      have h5 : l.getD i false = l1.getD i false := by
        rw [h4]
        by_cases hi : m ≤ i ∧ i < n
        · rw [hall i hi.1 hi.2]; simp [hi.1, hi.2]
        · rw [getD_same (hl i hi)]
          have : (decide (m ≤ i) && decide (i < n)) = false := by simp; omega
          rw [this, Bool.false_or]
      simpa [h1, h2] using h5
    subst e
    rw [Nat.zero_add]
    exact hend vs w hv hb (fun i hm hi => hF i hm hi (hall i hm hi)) (fun i j hmi hi hmj hj => hD2 i j hmi hi hmj hj (hall i hmi hi) (hall j hmj hj))
  | succ f ih =>
    intro l vs w hf hsz hcl hl hv hF hb hD1 hD2
    have hsz2 : ∀ i, i < n → i < l.size := fun i hi => by rw [hsz]; have := G.lt; omega
    have hex : ∃ i, m ≤ i ∧ i < n ∧ l.getD i false = false := by
      have h0 : 0 < (List.range n).countP (fun i => decide (m ≤ i) && !l.getD i false) := by omega
      obtain ⟨i, hi, hp⟩ := List.countP_pos_iff.1 h0
      simp only [Bool.and_eq_true, decide_eq_true_eq, Bool.not_eq_true'] at hp
      exact ⟨i, hp.1, List.mem_range.1 hi, hp.2⟩
    have hdone : ∀ j, l0.getD j false = true → l.getD j false = true := fun j hj => by
      by_cases hi : m ≤ j ∧ j < n
      · obtain ⟨_, _, _, _, _, hu⟩ := G.at_ j hi.1 hi.2
        have h1 : j < l0.size := by rw [G.sz]; have := G.lt; omega
        simp [h1] at hu hj
        rw [hu] at hj; cases hj
      · rw [getD_same (hl j hi)]; exact hj
    have hready : Region.ready .any ops l ≠ [] := by
      have hmin : ∀ d i, i ≤ d → m ≤ i → i < n → l.getD i false = false → Region.ready .any ops l ≠ [] := by
        intro d
        induction d with
        | zero =>
          intro i hid hmi hi hu hne
          obtain ⟨o, ho, _, _, haf, _⟩ := G.at_ i hmi hi
          have : i ∈ Region.ready .any ops l := mem_ready.2 ⟨getD_in (hsz2 i hi) hu, o, ho, fun e he hbd => by
            rcases haf e he hbd with h | h
            · exact hdone _ h
            · omega⟩
          rw [hne] at this
          cases this
        | succ d ihd =>
          intro i hid hmi hi hu
          obtain ⟨o, ho, _, _, haf, _⟩ := G.at_ i hmi hi
          by_cases hc : ∃ j, m ≤ j ∧ j < i ∧ l.getD j false = false
          · obtain ⟨j, hmj, hj, hju⟩ := hc
            exact ihd j (by omega) hmj (by omega) hju
          · intro hne
            have : i ∈ Region.ready .any ops l := mem_ready.2 ⟨getD_in (hsz2 i hi) hu, o, ho, fun e he hbd => by
              rcases haf e he hbd with h | h
              · exact hdone _ h
              · cases h2 : l.getD e.on false with
                | true => rfl
                | false => exact absurd ⟨e.on, h.1, h.2, h2⟩ hc⟩
            rw [hne] at this
            cases this
      obtain ⟨i, hmi, hi, hu⟩ := hex
      exact hmin i i (Nat.le_refl _) hmi hi hu
    obtain ⟨i0, hm0, hi0, hu0⟩ := hex
    rw [show f + 1 + fe = (f + fe) + 1 by omega]
    refine ⟨fun h => absurd h hready, fun i hi => ?_⟩
    obtain ⟨hun, o, ho, hdep⟩ := mem_ready.1 hi
    have hilt : i < ops.size := (Array.getElem?_eq_some_iff.1 ho).1
    have hin : m ≤ i ∧ i < n := by
      by_cases hin : m ≤ i ∧ i < n
      · exact hin
      · have hu : l0.getD i true = false := by rw [← getD_same (hl i hin)]; exact hun
        exact absurd hi (Region.reach_not_ready hcl (G.wait i hilt hu hin i0 hm0 hi0) (by rw [← hu0]; have := hsz2 i0 hi0; simp [this]))
    obtain ⟨hmi, hin⟩ := hin
    obtain ⟨o', ho', hdst, hgd, haf, _⟩ := G.at_ i hmi hin
    obtain rfl : o = o' := Option.some.inj (ho.symm.trans ho')
    refine wpOp_step ho (fun K hK => ?_)
    rw [if_pos (by unfold Region.wanted; rw [hgd])]
    refine hstep i o hmi hin ho vs w hv hb (fun e he hbd h1 h2 _ => hF e.on h1 (by omega) (hdep e he hbd)) K (fun v w' hvv hw' hM => hK _ _ ⟨fun _ _ => hS _ (hb.trans (hw'.mono hb.size)), ?_⟩)
    rw [hdst, ap_put hin G.dis]
    refine ih (l.setIfInBounds i true) (upd vs i v) w' ?_ (by rw [Array.size_setIfInBounds]; exact hsz) (fun j oj hoj hlj e he hbd => ?_) (fun j hj => ?_) (fun j hj => ?_) (fun j hmj hj hlj => ?_) (hb.trans (hw'.mono hb.size)) (fun j hmj hj hlj hMj b hbj => ?_) (fun j k hmj hj hmk hk hlj hlk hjk hMj hMk b hbj hbk => ?_)
    · have hc := count_set (p := fun k => decide (m ≤ k) && !l.getD k false) (q := fun k => decide (m ≤ k) && !(l.setIfInBounds i true).getD k false) (i := i) (by simp [getD_both hun, hmi]) (by simp [hsz2 i hin]) (fun j hji => by show (_ && !_) = (_ && !_); rw [getD_set_ne false (Ne.symm hji)]) n hin
      omega
    · have hmono' : ∀ k, l.getD k false = true → (l.setIfInBounds i true).getD k false = true := fun k hk => by
        by_cases hki : k = i
        · subst hki; simp [hsz2 k hin]
        · rw [getD_set_ne false (Ne.symm hki)]; exact hk
      by_cases hji : j = i
      · subst hji
        obtain rfl : o = oj := Option.some.inj (ho.symm.trans hoj)
        exact hmono' _ (hdep e he hbd)
      · rw [getD_set_ne false (Ne.symm hji)] at hlj
        exact hmono' _ (hcl j oj hoj hlj e he hbd)
    · rw [Array.getElem?_setIfInBounds_ne (fun e => hj (by rw [← e]; exact ⟨hmi, hin⟩))]
      exact hl j hj
    · rw [upd, if_neg (by omega)]
      exact hv j hj
    · by_cases hji : j = i
      · subst hji
        rw [upd, if_pos rfl]
        exact hvv
      · rw [upd, if_neg hji]
        rw [getD_set_ne false (Ne.symm hji)] at hlj
        exact hmono _ _ _ _ (hF j hmj hj hlj) hw'
    · by_cases hji : j = i
      · subst hji
        rw [upd, if_pos rfl] at hbj
        exact (hM hMj b hbj).2
      · rw [upd, if_neg hji] at hbj
        rw [getD_set_ne false (Ne.symm hji)] at hlj
        exact Nat.lt_of_lt_of_le (hD1 j hmj hj hlj hMj b hbj) hw'.size
    · by_cases hji : j = i
      · subst hji
        rw [upd, if_pos rfl] at hbj
        rw [upd, if_neg (Ne.symm hjk)] at hbk
        rw [getD_set_ne false hjk] at hlk
        have h1 := (hM hMj b hbj).1
        have h2 := hD1 k hmk hk hlk hMk b hbk
        omega
      · rw [upd, if_neg hji] at hbj
        rw [getD_set_ne false (Ne.symm hji)] at hlj
        by_cases hki : k = i
        · subst hki
          rw [upd, if_pos rfl] at hbk
          have h1 := (hM hMk b hbk).1
          have h2 := hD1 j hmj hj hlj hMj b hbj
          omega
        · rw [upd, if_neg hki] at hbk
          rw [getD_set_ne false (Ne.symm hki)] at hlk
          exact hD2 j k hmj hj hmk hk hlj hlk hjk hMj hMk b hbj hbk
theorem makers2_ {m n f fe fuel : Nat} {a0 : Act} {w0 : World} (l0 l1 : Array Bool) (hB : growMB ops m n l0 l1 = true) (es : List Nat) (hes : (List.range n).map (dstN ops) = es) (hf : (List.range n).countP (fun i => decide (m ≤ i) && !l0.getD i false) = f) (hfe : fuel = f + fe)
    (F : Nat → Value → World → Prop) (M : Nat → Bool) (hS : ∀ w, Below w0.heap.size w0 w → S w) (hmono : ∀ i v w w', F i v w → Below w.heap.size w w' → F i v w')
    (hstep : ∀ i o, m ≤ i → i < n → ops[i]? = some o → ∀ vs w, (∀ j, j < m → vs j = a0.tmps.getD (dstN ops j) undef) → Below w0.heap.size w0 w → (∀ e ∈ o.after, Region.binds .any e = true → m ≤ e.on → e.on < i → l0.getD e.on false = false → F e.on (vs e.on) w) → ∀ K : Act → World → Prop, (∀ v w', F i v w' → Below w.heap.size w w' → (M i = true → ∀ b, blk v = some b → w.heap.size ≤ b ∧ b < w'.heap.size) → K (({ a0 with tmps := fil2 a0.tmps vs es } : Act).put o.dst v) w') → o.wp P { a0 with tmps := fil2 a0.tmps vs es } w K Q)
    (hend : ∀ vs w, (∀ j, j < m → vs j = a0.tmps.getD (dstN ops j) undef) → Below w0.heap.size w0 w → (∀ i, m ≤ i → i < n → F i (vs i) w) → (∀ i j, m ≤ i → i < n → m ≤ j → j < n → i ≠ j → M i = true → M j = true → ∀ b, blk (vs i) = some b → blk (vs j) ≠ some b) → wpAnyLast P .any ops Q S ds fe l1 { a0 with tmps := fil2 a0.tmps vs es } w) :
    wpAnyLast P .any ops Q S ds fuel l0 a0 w0 := by
  have G := growMB_spec hB
  have e : ∀ vs, ({ a0 with tmps := fil2 a0.tmps vs es } : Act) = ap ops n a0 vs := fun vs => by
    rw [← hes, fil2_eq]
    rfl
  have hu : ∀ i, m ≤ i → i < n → l0.getD i false = true → False := fun i hm hi h => by
    obtain ⟨_, _, _, _, _, hu⟩ := G.at_ i hm hi
    have h1 : i < l0.size := by rw [G.sz]; have := G.lt; omega
    simp [h1] at hu h
    rw [hu] at h; cases h
  have H := last_of_grow2 (P := P) (Q := Q) (S := S) (ds := ds) (fe := fe) G (a0 := a0) (w0 := w0) (fun i => a0.tmps.getD (dstN ops i) undef) F M hS hmono
    (fun i o hm hi ho vs w hv hb hd K hK => by
      have := hstep i o hm hi ho vs w hv hb hd K (fun v w' h1 h2 h3 => by rw [e]; exact hK v w' h1 h2 h3)
      rwa [e] at this)
    (fun vs w hv hb hF hD => by have := hend vs w hv hb hF hD; rwa [e] at this)
    f l0 (fun i => a0.tmps.getD (dstN ops i) undef) w0 hf G.sz G.closed (fun _ _ => rfl) (fun _ _ => rfl) (fun i hm hi h => (hu i hm hi h).elim) (Below.refl _ _) (fun i hm hi h => (hu i hm hi h).elim) (fun i j hm hi _ _ h => (hu i hm hi h).elim)
  rw [ap_self a0 G.dis] at H
  rwa [hfe]
end
end Go.Proofs.YtanabbjakacgbaaDoor.Grow
namespace Go.Proofs.YtanabbjakacgbaaDoor.Sp
open Go.RowKit Go.Proofs.YtanabbjakacgbaaDoorW.PrintWords Go.Proofs.YtanabbjakacgbaaDoorW.PrintLast Go.Proofs.YtanabbjakacgbaaDoorW.PrintMore Go.Proofs.YtanabbjakacgbaaDoor.PM Go.Proofs.YtanabbjakacgbaaDoor.Grow
set_option linter.unusedVariables false
set_option linter.unusedSimpArgs false
set_option maxRecDepth 100000
attribute [local go_sem] Oper.semAt_some
theorem halfL_sub {l : List Lf} {d : Nat} {b : Int} {y : Lf} (h : y ∈ halfL l d b) : y ∈ l := by
  rw [halfL, List.mem_map] at h
  obtain ⟨z, hz, rfl⟩ := h
  have := (List.mem_filter.1 hz).1
  rw [itemsOf, List.mem_map] at this
  obtain ⟨x, hx, rfl⟩ := this
  exact hx
theorem SmL.halfL {l : List Lf} (h : SmL l) (b : Int) (hb : b = 0 ∨ b = 1) : SmL (halfL l 0 b) := by
  refine ⟨?_, fun y hy => h.2 y (halfL_sub hy)⟩
  have h1 := halfL_len l 0
  have h2 := h.1
  rcases hb with rfl | rfl <;> omega
theorem HalfR_calls (l : List Lf) (A : Option Addr) (c : Nat) (w : World) (hr : kL.R 33 w 0 (fun _ => True) (.slice A l.length c) l) (hl : SmL l) (b : Int) (m : List Lf) (hm : halfL l 0 b = m) :
    Calls Tryd.prog 20 #[.slice A l.length c, .int .i64 0, .int .i64 b] w fun e w' => ∃ A' c', e = .returned (.slice A' m.length c') ∧ kL.R 33 w' 0 (fun _ => True) (.slice A' m.length c') m ∧ Below w.heap.size w w' := by
  have h := Half_calls l 0 (by decide) b A c w (R_C hr).2.2 (R_C hr).2.1 hl
  rw [hm] at h
  refine h.mono ?_
  rintro e w' ⟨v, rfl, hr2, hb2⟩
  obtain ⟨A', c', rfl⟩ := Kd.R_slice hr2
  exact ⟨A', c', rfl, Kd.R_lower hr2 (Nat.zero_le _), hb2⟩
theorem NodeR_calls (l : List Lf) (A : Option Addr) (c : Nat) (w : World) (hr : kL.R 33 w 0 (fun _ => True) (.slice A l.length c) l) (hl : SmL l) (x : Sm) (hx : hashOf (itemsOf l) 1 = x) :
    Calls Tryd.prog 21 #[.slice A l.length c, .int .i64 1] w fun e w' => e = .returned (.agg (cS x)) ∧ Below w.heap.size w w' := by
  have h := Node_calls l 1 (by decide) A c w (R_C hr).2.2 (R_C hr).2.1 hl
  rw [hx] at h
  exact h
theorem BitR_calls (k : ByteArray) (hk1 : k.size ≤ 100000) (w : World) (b : Int) (hb : bitI (hk k) 0 = b) :
    Calls Tryd.prog 23 #[.string k, .int .i64 0] w fun e w' => e = .returned (.int .i64 b) ∧ Below w.heap.size w w' := by
  have h := Bit_calls k 0 (by decide) (by omega) w
  rw [hb] at h
  exact h
theorem bs2B_run {o : Oper} {a : Act} (x y : Operand) (ho : o.op = .buildSlice 51 2 #[(0, x), (1, y)]) (A1 : Option Addr) (n1 c1 : Nat) (A2 : Option Addr) (n2 c2 : Nat) (hx : a.eval x = .slice A1 n1 c1) (hy : a.eval y = .slice A2 n2 c2) (w : World) : (execOp a.eval o).run Tryd.prog w = .ok (.value (.slice (some ⟨w.heap.size, 0, none⟩) 2 2)) (w.alloc (.cells #[.slice A1 n1 c1, .slice A2 n2 c2] 50)) := by
  obtain ⟨ie, hi, hzz⟩ := Option.map_eq_some_iff.1 infoB
  simp only [Prod.mk.injEq] at hzz
  unfold execOp
  simp only [ho, Sem.run_bind]
  have e : (Array.map (fun x : Nat × Operand => (x.1, a.eval x.2)) #[(0, x), (1, y)]) = #[(0, .slice A1 n1 c1), (1, .slice A2 n2 c2)] := by simp [hx, hy]
  have hf := run_buildSlice (P := Tryd.prog) w 51 50 2 #[(0, .slice A1 n1 c1), (1, .slice A2 n2 c2)] #[.slice A1 n1 c1, .slice A2 n2 c2] ie (.slice none 0 0) Tryd.underlying51 hi hzz.1 (by rw [hzz.2.1]; omega) (by rw [hzz.2.1]; omega) (by
    rw [hzz.2.1]
    exact fill_two 0 1 (.slice A1 n1 c1) (.slice A2 n2 c2) _ _ (by simp [Value.cells]) (by simp [Value.cells]) (by simp [Value.cells]))
  rw [e, hf]
  rfl
structure HvSt (w0 : World) (A : Option Addr) (c : Nat) (l : List Lf) (g : Nat) (x y : Sm) (w : World) : Prop where
  below : Below w0.heap.size w0 w
  words : Words w
  row : kL.R 33 w 0 (fun _ => True) (.slice A l.length c) l
  bx : w.heap[g]? = some (.cells (cS x) 27 (0, 0))
  by_ : w.heap[g + 1]? = some (.cells (cS y) 27 (0, 0))
theorem HvSt.next {w0 w w' : World} {A : Option Addr} {c g : Nat} {l : List Lf} {x y : Sm} (h : HvSt w0 A c l g x y w) (hb : Below w.heap.size w w') : HvSt w0 A c l g x y w' :=
  ⟨h.below.trans (hb.mono h.below.size), h.words.below hb, Kd.R_below h.row hb, at_next h.bx hb, at_next h.by_ hb⟩
def rootF (g : Nat) (r : Sm) (x y : Sm) (B : Nat) (i : Nat) (v : Value) (w : World) : Prop :=
  match i with
  | 1 => v = .agg (cS r)
  | 2 => v = .slice (some ⟨g, 0, none⟩) 32 32
  | 3 => v = .slice (some ⟨g + 1, 0, none⟩) 32 32
  | 4 => ∃ b, v = .slice (some ⟨b, 0, none⟩) 2 2 ∧ w.heap[b]? = some (.cells #[.slice (some ⟨g, 0, none⟩) 32 32, .slice (some ⟨g + 1, 0, none⟩) 32 32] 50 (0, 0))
  | _ => v = .agg (cS r)
theorem rootF_mono (g : Nat) (r x y : Sm) (B : Nat) : ∀ i v w w', rootF g r x y B i v w → Below w.heap.size w w' → rootF g r x y B i v w' := by
  intro i v w w' h hb
  unfold rootF at h ⊢
  split at h
  · exact h
  · exact h
  · exact h
  · obtain ⟨b, h1, h2⟩ := h
    exact ⟨b, h1, at_next h2 hb⟩
  · exact h
theorem nodes_C {w : World} {g b : Nat} {x y : Sm} (hx : w.heap[g]? = some (.cells (cS x) 27 (0, 0))) (hy : w.heap[g + 1]? = some (.cells (cS y) 27 (0, 0))) (hb : w.heap[b]? = some (.cells #[.slice (some ⟨g, 0, none⟩) 32 32, .slice (some ⟨g + 1, 0, none⟩) 32 32] 50 (0, 0))) :
    Kd.C (Kd.slice 5 (Kd.int .u8)) w (some ⟨b, 0, none⟩) [x.b, y.b].length [x.b, y.b] :=
  two_rows (by rw [x.h, y.h]; exact hb) (sum_C (row_cells hx)) (by rw [x.h]; omega) (sum_C (row_cells hy)) (by rw [y.h]; omega)
theorem OfN_calls {w : World} {g b : Nat} {x y r : Sm} (hr : nodeH x y = r) (hx : w.heap[g]? = some (.cells (cS x) 27 (0, 0))) (hy : w.heap[g + 1]? = some (.cells (cS y) 27 (0, 0))) (hb : w.heap[b]? = some (.cells #[.slice (some ⟨g, 0, none⟩) 32 32, .slice (some ⟨g + 1, 0, none⟩) 32 32] 50 (0, 0))) :
    Calls Tryd.prog 22 #[.int .u8 78, .slice (some ⟨b, 0, none⟩) 2 2] w fun e w' => e = .returned (.agg (cS r)) ∧ Below w.heap.size w w' := by
  have h := of3H_calls 78 (by omega) [x.b, y.b] (Fit2 (by rw [x.h]; omega) (by rw [y.h]; omega) x.r y.r) (some ⟨b, 0, none⟩) 2 w (nodes_C hx hy hb) (by simp)
  rw [show hof 78 [x.b, y.b] = r from hr] at h
  exact h
set_option maxHeartbeats 4000000 in
theorem halves_calls (a : List (Int × Int)) (ha : Oct a) (A0 : Option Addr) (c0 : Nat) (w : World) (hW : Words w) (hr : kQ.C w A0 a.length a) (hc : a.length ≤ c0) :
    Calls Tryd.prog 5 #[.slice A0 a.length c0] w fun e w' => e = .returned (.bool true) ∧ Below w.heap.size w w' := by
  have HS := Aside0.mk (And.intro hr hc)
  have HW := Aside0.mk hW
  have HA := Aside0.mk ha
  obtain ⟨l, hl⟩ : ∃ l, madeOf (a.take 12) = l := ⟨_, rfl⟩
  have HL := Aside0.mk (⟨hl, by rw [← hl]; exact made_sm a 12 (by decide)⟩ : madeOf (a.take 12) = l ∧ SmL l)
  clear hr hc hW ha hl
  by_cases hl2 : l.length < 2
  · have hl3 : (l.length : Int) < 2 := by omega
    go_enter Tryd.func5, Tryd.ntmps5
    go_wp2_with (first
      | (go_at_call 10; (with_reducible refine (sanity_calls w HW.out).mono ?_); rintro e w1 ⟨rfl, hb1⟩; have H1 := Aside0.mk (⟨hb1, HW.out.below hb1, Kd.C_below HS.out.1 hb1⟩ : _ ∧ _ ∧ _); clear hb1)
      | (go_at_call 11; (with_reducible refine (Made12_calls a HA.out A0 c0 w1 H1.out.2.2 HS.out.2 l HL.out.1).mono ?_); rintro e w2 ⟨A, c, rfl, hr2, hb2⟩; have H2 := Aside0.mk (below_tr H1.out.1 hb2 H1.out.1.size); clear hr2 hb2))
    go_ret
    exact ⟨rfl, H2.out⟩
  · have hl3 : ¬ (l.length : Int) < 2 := by omega
    obtain ⟨m0, hm0⟩ : ∃ m, halfL l 0 0 = m := ⟨_, rfl⟩
    obtain ⟨m1, hm1⟩ : ∃ m, halfL l 0 1 = m := ⟨_, rfl⟩
    obtain ⟨x, hx⟩ : ∃ x, hashOf (itemsOf m0) 1 = x := ⟨_, rfl⟩
    obtain ⟨y, hy⟩ : ∃ y, hashOf (itemsOf m1) 1 = y := ⟨_, rfl⟩
    obtain ⟨r, hr0⟩ : ∃ r, rootOf l = r := ⟨_, rfl⟩
    have hrt := halves_root (l := l) (by omega)
    rw [hm0, hm1, hx, hy, hr0] at hrt
    have hln := halfL_len l 0
    rw [hm0, hm1] at hln
    have HM := Aside0.mk (⟨hm0, hm1, hx, hy, by rw [← hm0]; exact HL.out.2.halfL 0 (.inl rfl), by rw [← hm1]; exact HL.out.2.halfL 1 (.inr rfl), hr0, hrt.symm⟩ : halfL l 0 0 = m0 ∧ halfL l 0 1 = m1 ∧ hashOf (itemsOf m0) 1 = x ∧ hashOf (itemsOf m1) 1 = y ∧ SmL m0 ∧ SmL m1 ∧ rootOf l = r ∧ nodeH x y = r)
    have hml : l.length ≤ 100000 := HL.out.2.1
    have hml0 : m0.length ≤ 100000 := HM.out.2.2.2.2.1.1
    have hml1 : m1.length ≤ 100000 := HM.out.2.2.2.2.2.1.1
    clear hm0 hm1 hx hy hr0 hrt
    go_enter Tryd.func5, Tryd.ntmps5
    go_wp2_with (first
      | (go_at_call 10; (with_reducible refine (sanity_calls w HW.out).mono ?_); rintro e w1 ⟨rfl, hb1⟩; have H1 := Aside0.mk (⟨hb1, HW.out.below hb1, Kd.C_below HS.out.1 hb1⟩ : _ ∧ _ ∧ _); clear hb1)
      | (go_at_call 11; (with_reducible refine (Made12_calls a HA.out A0 c0 w1 H1.out.2.2 HS.out.2 l HL.out.1).mono ?_); rintro e w2 ⟨A, c, rfl, hr2, hb2⟩; have H2 := Aside0.mk (⟨below_tr H1.out.1 hb2 H1.out.1.size, H1.out.2.1.below hb2, hr2⟩ : _ ∧ _ ∧ _); clear hr2 hb2)
      | (go_at_call 20; (with_reducible refine (HalfR_calls l A c w2 H2.out.2.2 HL.out.2 0 m0 HM.out.1).mono ?_); rintro e w3 ⟨A3, c3, rfl, hr3, hb3⟩; have H3 := Aside0.mk (⟨below_tr H2.out.1 hb3 H2.out.1.size, H2.out.2.1.below hb3, Kd.R_below H2.out.2.2 hb3, hr3⟩ : _ ∧ _ ∧ _ ∧ _); clear hr3 hb3)
      | (go_at_call 20; (with_reducible refine (HalfR_calls l A c w3 H3.out.2.2.1 HL.out.2 1 m1 HM.out.2.1).mono ?_); rintro e w4 ⟨A4, c4, rfl, hr4, hb4⟩; have H4 := Aside0.mk (⟨below_tr H3.out.1 hb4 H3.out.1.size, H3.out.2.1.below hb4, Kd.R_below H3.out.2.2.1 hb4, Kd.R_below H3.out.2.2.2 hb4, hr4⟩ : _ ∧ _ ∧ _ ∧ _ ∧ _); clear hr4 hb4)
      | (go_at_call 21; (with_reducible refine (NodeR_calls m0 A3 c3 w4 H4.out.2.2.2.1 HM.out.2.2.2.2.1 x HM.out.2.2.1).mono ?_); rintro e w5 ⟨rfl, hb5⟩; have H5 := Aside0.mk (⟨below_tr H4.out.1 hb5 H4.out.1.size, H4.out.2.1.below hb5, Kd.R_below H4.out.2.2.1 hb5, Kd.R_below H4.out.2.2.2.2 hb5⟩ : _ ∧ _ ∧ _ ∧ _); clear hb5)
      | (go_at_call 21; (with_reducible refine (NodeR_calls m1 A4 c4 w5 H5.out.2.2.2 HM.out.2.2.2.2.2.1 y HM.out.2.2.2.1).mono ?_); rintro e w6 ⟨rfl, hb6⟩; have H6 := Aside0.mk (⟨below_tr H5.out.1 hb6 H5.out.1.size, H5.out.2.1.below hb6, Kd.R_below H5.out.2.2.1 hb6⟩ : _ ∧ _ ∧ _); clear hb6)
      | ((with_reducible refine gate_dst (N := 7) rfl ?_); (refine wpList_allocz rfl 27 (cS zS) rfl zero27 ?_))
      | ((with_reducible refine gate_dst (N := 8) rfl ?_); (refine wpList_allocz rfl 27 (cS zS) rfl zero27 ?_); rw [size_alloc]; obtain ⟨g, hg⟩ : ∃ g, g = w6.heap.size := ⟨_, rfl⟩; obtain ⟨wx, hwx⟩ : ∃ wx, (w6.alloc (.cells (cS zS) 27)).alloc (.cells (cS zS) 27) = wx := ⟨_, rfl⟩; obtain ⟨wy, hwy⟩ : ∃ wy, (wx.setRow g (cS x)).setRow (g + 1) (cS y) = wy := ⟨_, rfl⟩; have HTK := Aside0.mk (two_boxes hg hwx hwy); have HWX := Aside0.mk hwx; have HWY := Aside0.mk hwy; rw [← hg]; clear hwx hwy hg)
      | ((with_reducible refine gate_store (t := 27) (p := 7) rfl ?_); rw [HWX.out]; (refine wpList_store_row rfl 27 (.tmp 7) (.tmp 24) rfl g (cS x) rfl rfl 27 (cS zS) HTK.out.1 (by rw [cS_size]; kernel_rfl) (by rw [cS_size, cS_size]) (encI_one _) ?_))
      | ((with_reducible refine gate_store (t := 27) (p := 8) rfl ?_); (refine wpList_store_row rfl 27 (.tmp 8) (.tmp 26) rfl (g + 1) (cS y) rfl rfl 27 (cS zS) HTK.out.2.1 (by rw [cS_size]; kernel_rfl) (by rw [cS_size, cS_size]) (encI_one _) ?_); (refine at_world (w' := wy) HWY.out ?_); have HY : Aside0 (HvSt w A c l g x y wy) := Aside0.mk ⟨below_tr H6.out.1 HTK.out.2.2.2.2 H6.out.1.size, H6.out.2.1.below HTK.out.2.2.2.2, Kd.R_below H6.out.2.2 HTK.out.2.2.2.2, HTK.out.2.2.1, HTK.out.2.2.2.1⟩))
    refine start_ (n := 17) (S := fun w' => Below wy.heap.size wy w') (ds := []) #[false, false, false, false, false, false, false, false, false, false, false, false, false, false, false, false, false] (by kernel_rfl) rfl rfl (Below.refl _ _).drew (fun hHeld => ?_)
    refine pure_ (i := 0) (N := some 27) (v := ?_) (a' := ?_) #[true, false, false, false, false, false, false, false, false, false, false, false, false, false, false, false, false] rfl rfl (by kernel_rfl) (fun _ _ _ h => h) (Or.inl ⟨by rfl, ?_⟩) ?_ ?_
    rotate_left
    · intro w'
      go_simp
      with_reducible rfl
    rotate_left
    · simp only [Act.put, List.setIfInBounds_toArray, List.set_cons_zero, List.set_cons_succ, i64_w, i32_w]
      rfl
    refine makers2_ (m := 1) (n := 6) (f := 5) (fe := 11) #[true, false, false, false, false, false, false, false, false, false, false, false, false, false, false, false, false] #[true, true, true, true, true, true, false, false, false, false, false, false, false, false, false, false, false] (by kernel_rfl) [27, 28, 29, 30, 31, 32] (by kernel_rfl) (by kernel_rfl) rfl (rootF g r x y wy.drew.heap.size) (fun _ => false) (fun _ h => below_tr hHeld h hHeld.size) (rootF_mono _ _ _ _ _) ?hstep ?hend
    case hstep =>
      intro i o hm hi ho vs w2 hv hb2 hd K hK
      have h0 : vs 0 = .slice A l.length c := hv 0 (by decide)
      have hst := HY.out.next (below_tr hHeld hb2 hHeld.size)
      simp only [fil2, List.zipIdx_cons, List.zipIdx_nil, List.foldl_cons, List.foldl_nil, List.setIfInBounds_toArray, List.set_cons_zero, List.set_cons_succ, Nat.zero_add, Nat.reduceAdd] at hK ⊢
      match i, hm, hi, ho, hK, hd with
      | 0, hm, _, _, _, _ => exact absurd hm (by decide)
      | 1, _, _, ho, hK, hd =>
        obtain rfl : _ = o := Option.some.inj ho
        refine gr_go Tryd.func12 (by kernel_rfl) rfl #[.slice A l.length c] rfl (by simp only [List.map_toArray, List.map_cons, List.map_nil]; rw [← h0]; rfl) ?_
        refine (RootR_calls l A c w2 hst.words hst.row HL.out.2 r HM.out.2.2.2.2.2.2.1).mono ?_
        rintro e w3 ⟨rfl, hb3⟩
        exact ⟨_, rfl, hK _ _ rfl hb3 (fun h => by cases h)⟩
      | 2, _, _, ho, hK, hd =>
        obtain rfl : _ = o := Option.some.inj ho
        exact gr_val (.slice (some ⟨g, 0, none⟩) 32 32) (by go_simp) (hK _ _ rfl (Below.refl _ _) (fun h => by cases h))
      | 3, _, _, ho, hK, hd =>
        obtain rfl : _ = o := Option.some.inj ho
        exact gr_val (.slice (some ⟨g + 1, 0, none⟩) 32 32) (by go_simp) (hK _ _ rfl (Below.refl _ _) (fun h => by cases h))
      | 4, _, _, ho, hK, hd =>
        obtain rfl : _ = o := Option.some.inj ho
        have h2 : vs 2 = .slice (some ⟨g, 0, none⟩) 32 32 := hd ⟨2, .data⟩ (by simp) rfl (by decide) (by decide) rfl
        have h3 : vs 3 = .slice (some ⟨g + 1, 0, none⟩) 32 32 := hd ⟨3, .data⟩ (by simp) rfl (by decide) (by decide) rfl
        refine gr_val (.slice (some ⟨w2.heap.size, 0, none⟩) 2 2) (bs2B_run (.tmp 29) (.tmp 30) rfl _ _ _ _ _ _ ?x2 ?x3 w2) (hK _ _ ⟨_, rfl, h_new rfl⟩ (below_alloc (Below.refl _ _) _) (fun h => by cases h))
        case x2 => exact h2
        case x3 => exact h3
      | 5, _, _, ho, hK, hd =>
        obtain rfl : _ = o := Option.some.inj ho
        obtain ⟨b, h4, h5⟩ : ∃ b, vs 4 = .slice (some ⟨b, 0, none⟩) 2 2 ∧ w2.heap[b]? = some (.cells #[.slice (some ⟨g, 0, none⟩) 32 32, .slice (some ⟨g + 1, 0, none⟩) 32 32] 50 (0, 0)) := hd ⟨4, .data⟩ (by simp) rfl (by decide) (by decide) rfl
        refine gr_go Tryd.func22 (by kernel_rfl) rfl #[.int .u8 78, .slice (some ⟨b, 0, none⟩) 2 2] rfl (by simp only [List.map_toArray, List.map_cons, List.map_nil]; rw [← h4]; rfl) ?_
        refine (OfN_calls HM.out.2.2.2.2.2.2.2 hst.bx hst.by_ h5).mono ?_
        rintro e w3 ⟨rfl, hb3⟩
        exact ⟨_, rfl, hK _ _ rfl hb3 (fun h => by cases h)⟩
      | _ + 6, _, hi, _, _, _ => exact absurd hi (by omega)
    case hend =>
      intro vs w7 hv hb7 hF hD
      simp only [fil2, List.zipIdx_cons, List.zipIdx_nil, List.foldl_cons, List.foldl_nil, List.setIfInBounds_toArray, List.set_cons_zero, List.set_cons_succ, Nat.zero_add, Nat.reduceAdd]
      have f1 : vs 1 = .agg (cS r) := hF 1 (by decide) (by decide)
      have f5 : vs 5 = .agg (cS r) := hF 5 (by decide) (by decide)
      obtain ⟨v0, hv0⟩ : ∃ v, vs 0 = v := ⟨_, rfl⟩
      obtain ⟨v2, hv2⟩ : ∃ v, vs 2 = v := ⟨_, rfl⟩
      obtain ⟨v3, hv3⟩ : ∃ v, vs 3 = v := ⟨_, rfl⟩
      obtain ⟨v4, hv4⟩ : ∃ v, vs 4 = v := ⟨_, rfl⟩
      rw [f1, f5, hv0, hv2, hv3, hv4]
      have HHL := Aside0.mk (HY.out.next (below_tr hHeld hb7 hHeld.size))
      have hHeld := below_tr hHeld hb7 hHeld.size
      clear f1 f5 hv0 hv2 hv3 hv4 hF hD hv vs
      have hsum : (wrap64 ((m0.length : Int) + (m1.length : Int)) != (l.length : Int)) = false := by rw [show wrap64 ((m0.length : Int) + (m1.length : Int)) = (m0.length : Int) + (m1.length : Int) by unfold wrap64; omega]; simp; omega
      refine pure_ (i := 6) (N := some 33) (v := .bool false) (a' := ?_) #[true, true, true, true, true, true, true, false, false, false, false, false, false, false, false, false, false] rfl rfl (by kernel_rfl) (fun _ _ _ h => h) (Or.inl ⟨by rfl, fun w' => yield_neq _ _ _ _ rfl _ _ rfl rfl gt_S (eqS_r w' r)⟩) ?_ ?_
      rotate_left
      · simp only [Act.put, List.setIfInBounds_toArray, List.set_cons_zero, List.set_cons_succ, i64_w, i32_w]
        rfl
      refine pure_ (i := 7) (N := some 34) (v := ?_) (a' := ?_) #[true, true, true, true, true, true, true, true, false, false, false, false, false, false, false, false, false] rfl rfl (by kernel_rfl) (fun _ _ _ h => h) (Or.inl ⟨by rfl, ?_⟩) ?_ ?_
      rotate_left
      · intro w'
        go_simp
        with_reducible rfl
      rotate_left
      · simp only [Act.put, List.setIfInBounds_toArray, List.set_cons_zero, List.set_cons_succ, i64_w, i32_w]
        rfl
      refine pure_ (i := 8) (N := some 35) (v := ?_) (a' := ?_) #[true, true, true, true, true, true, true, true, true, false, false, false, false, false, false, false, false] rfl rfl (by kernel_rfl) (fun _ _ _ h => h) (Or.inl ⟨by rfl, ?_⟩) ?_ ?_
      rotate_left
      · intro w'
        go_simp
        with_reducible rfl
      rotate_left
      · simp only [Act.put, List.setIfInBounds_toArray, List.set_cons_zero, List.set_cons_succ, i64_w, i32_w]
        rfl
      refine pure_ (i := 9) (N := some 36) (v := ?_) (a' := ?_) #[true, true, true, true, true, true, true, true, true, true, false, false, false, false, false, false, false] rfl rfl (by kernel_rfl) (fun _ _ _ h => h) (Or.inl ⟨by rfl, ?_⟩) ?_ ?_
      rotate_left
      · intro w'
        go_simp
        with_reducible rfl
      rotate_left
      · simp only [Act.put, List.setIfInBounds_toArray, List.set_cons_zero, List.set_cons_succ, i64_w, i32_w]
        rfl
      refine pure_ (i := 10) (N := some 37) (v := ?_) (a' := ?_) #[true, true, true, true, true, true, true, true, true, true, true, false, false, false, false, false, false] rfl rfl (by kernel_rfl) (fun _ _ _ h => h) (Or.inl ⟨by rfl, ?_⟩) ?_ ?_
      rotate_left
      · intro w'
        go_simp
        with_reducible rfl
      rotate_left
      · simp only [Act.put, List.setIfInBounds_toArray, List.set_cons_zero, List.set_cons_succ, i64_w, i32_w]
        rfl
      refine pure_ (i := 11) (N := some 38) (v := ?_) (a' := ?_) #[true, true, true, true, true, true, true, true, true, true, true, true, false, false, false, false, false] rfl rfl (by kernel_rfl) (fun _ _ _ h => h) (Or.inl ⟨by rfl, ?_⟩) ?_ ?_
      rotate_left
      · intro w'
        go_simp
        with_reducible rfl
      rotate_left
      · simp only [Act.put, List.setIfInBounds_toArray, List.set_cons_zero, List.set_cons_succ, i64_w, i32_w]
        rfl
      refine pure_ (i := 12) (N := some 39) (v := ?_) (a' := ?_) #[true, true, true, true, true, true, true, true, true, true, true, true, true, false, false, false, false] rfl rfl (by kernel_rfl) (fun _ _ _ h => h) (Or.inl ⟨by rfl, ?_⟩) ?_ ?_
      rotate_left
      · intro w'
        go_simp
        with_reducible rfl
      rotate_left
      · simp only [Act.put, List.setIfInBounds_toArray, List.set_cons_zero, List.set_cons_succ, i64_w, i32_w]
        rfl
      refine pure_ (i := 13) (N := some 40) (v := ?_) (a' := ?_) #[true, true, true, true, true, true, true, true, true, true, true, true, true, true, false, false, false] rfl rfl (by kernel_rfl) (fun _ _ _ h => h) (Or.inl ⟨by rfl, ?_⟩) ?_ ?_
      rotate_left
      · intro w'
        go_simp
        with_reducible rfl
      rotate_left
      · simp only [Act.put, List.setIfInBounds_toArray, List.set_cons_zero, List.set_cons_succ, i64_w, i32_w]
        rfl
      refine pure_ (i := 14) (N := some 41) (v := ?_) (a' := ?_) #[true, true, true, true, true, true, true, true, true, true, true, true, true, true, true, false, false] rfl rfl (by kernel_rfl) (fun _ _ _ h => h) (Or.inl ⟨by rfl, ?_⟩) ?_ ?_
      rotate_left
      · intro w'
        go_simp
        with_reducible rfl
      rotate_left
      · simp only [Act.put, List.setIfInBounds_toArray, List.set_cons_zero, List.set_cons_succ, i64_w, i32_w]
        rfl
      refine pure_ (i := 15) (N := some 42) (v := ?_) (a' := ?_) #[true, true, true, true, true, true, true, true, true, true, true, true, true, true, true, true, false] rfl rfl (by kernel_rfl) (fun _ _ _ h => h) (Or.inl ⟨by rfl, ?_⟩) ?_ ?_
      rotate_left
      · intro w'
        go_simp
        with_reducible rfl
      rotate_left
      · simp only [Act.put, List.setIfInBounds_toArray, List.set_cons_zero, List.set_cons_succ, i64_w, i32_w]
        rfl
      refine pure_ (i := 16) (N := some 43) (v := ?_) (a' := ?_) #[true, true, true, true, true, true, true, true, true, true, true, true, true, true, true, true, true] rfl rfl (by kernel_rfl) (fun _ _ _ h => h) (Or.inl ⟨by rfl, ?_⟩) ?_ ?_
      rotate_left
      · intro w'
        go_simp
        with_reducible rfl
      rotate_left
      · simp only [Act.put, List.setIfInBounds_toArray, List.set_cons_zero, List.set_cons_succ, i64_w, i32_w]
        rfl
      refine done_ (by kernel_rfl) ?_
      clear hHeld HY HTK HWX HWY H1 H2 H3 H4 H5 H6 hb7
      obtain ⟨Z36, hz36⟩ : ∃ Z, Z = cP (.slice none 0 0) 0 zL := ⟨_, rfl⟩
      have HZ36 := Aside0.mk (And.intro (show ∀ w, (zeroValue 36).run Tryd.prog w = .ok (.agg Z36) w by rw [hz36]; exact zero36) (show Z36.size = 35 by rw [hz36]; exact cP_size _ _ _))
      clear hz36
      go_wp2
      go_loopw [9] (fun i wr => ∃ n : Nat, i = .int .i64 (n : Int) ∧ n ≤ l.length ∧ Aside0 (HvSt w A c l g x y wr)) (fun i _ => l.length - (intOf i).toNat)
      case atStart => exact ⟨0, rfl, by omega, HHL⟩
      case round =>
        clear HHL
        obtain ⟨n, rfl, hn, HR⟩ := hrel
        by_cases c5 : n < l.length
        · have c5b : (n : Int) < (l.length : Int) := by omega
          have c5c := eq_true c5b
          have c5d : ((0 : Int) ≤ (n : Int)) = True := eq_true (by omega)
          obtain ⟨z, hz⟩ : ∃ z, z = l.getD n zL := ⟨_, rfl⟩
          obtain ⟨ad, eA, hat⟩ := at_flat (R_C HR.out.row).2.2 zL (n : Int) (by omega) c5b
          rw [show ((n : Int).toNat) = n by omega, ← hz] at hat
          subst eA
          have HAT := Aside0.mk hat
          have hzl : z ∈ l := by rw [hz]; exact getD_mem' c5
          obtain ⟨p, hp⟩ : ∃ p, proveOf l z.k = p := ⟨_, rfl⟩
          have HZ := Aside0.mk (⟨hp, HL.out.2.2 z hzl, by rw [← hp]; have := path_len l z.k; omega⟩ : proveOf l z.k = p ∧ z.k.size ≤ 100000 ∧ p.p.length ≤ 1000000)
          have hph := path_head (l := l) (by omega) z.k
          rw [HM.out.1, HM.out.2.1, HM.out.2.2.1, HM.out.2.2.2.1, hp] at hph
          have hx0 := at_L0 HAT.out
          have hpm := HZ.out.2.2
          clear hat hzl hp hz
          rcases bitI_01 (hk z.k) 0 with hbit | hbit
          · have hbe : bitI (hk z.k) 0 = 0 := hbit
            obtain ⟨hd, hhd⟩ : ∃ hd : Sm, hd = y := ⟨_, rfl⟩
            have HHD := Aside0.mk (show ∃ rs, p.p = hd :: rs by obtain ⟨rs, hrs⟩ := hph; rw [hbe] at hrs; exact ⟨rs, by rw [hrs, hhd]; rw [if_neg (by decide)]⟩)
            have HXY := Aside0.mk hhd
            have HBIT := Aside0.mk hbe
            clear hhd hbit hbe hph
            go_wp2_with (first
              | (go_at_call 14; (with_reducible refine (ProveR_calls l z.k (some ad) c wr HR.out.words HR.out.row HL.out.2 HZ.out.2.1 p HZ.out.1).mono ?_); rintro e w4 ⟨A4, c4, C4, hC4, rfl, hp4, hb4⟩; have HC4 := Aside0.mk (⟨hC4, hp4, HR.out.next hb4, hb4⟩ : _ ∧ _ ∧ _ ∧ _); clear hC4 hp4 hb4)
              | ((with_reducible refine gate_dst (N := 10) rfl ?_); (refine wpList_allocz rfl 36 Z36 rfl HZ36.out.1 ?_))
              | ((with_reducible refine gate_store (t := 36) (p := 10) rfl ?_); (refine wpList_store_row rfl 36 (.tmp 10) (.tmp 56) rfl w4.heap.size C4 rfl rfl 36 Z36 (h_new rfl) (by rw [HC4.out.1, cP_size]; kernel_rfl) (by rw [HC4.out.1, cP_size, HZ36.out.2]) (all_one (by rw [HC4.out.1]; exact cP_one rfl _ _)) ?_); generalize hwv : World.setRow _ w4.heap.size C4 = wq; have hy1 : wq.heap[w4.heap.size]? = some (.cells C4 36 (0, 0)) := (by rw [← hwv]; exact setRow_heap _ _ _ _ _ _ (h_new rfl)); have hyb : Below w4.heap.size w4 wq := (by rw [← hwv]; exact below_setRow (below_alloc (Below.refl _ _) _) (Nat.le_refl _)); clear hwv; obtain ⟨g10, hg10⟩ : ∃ g, g = w4.heap.size := ⟨_, rfl⟩; rw [← hg10] at hy1 ⊢; have HQ := Aside0.mk (⟨HC4.out.2.2.1.next hyb, hy1, Kd.C_below HC4.out.2.1 hyb, below_tr HC4.out.2.2.2 hyb HC4.out.2.2.2.size⟩ : _ ∧ _ ∧ _ ∧ _); clear hy1 hyb hg10)
              | ((with_reducible refine gate_dst (N := 57) rfl ?_); (refine wpList_loadv rfl 27 _ rfl _ rfl _ ((ld_S HQ.out.1.by_) 0) ?_))
              | ((with_reducible refine gate_dst (N := 11) rfl ?_); (refine wpList_allocz rfl 27 (cS zS) rfl zero27 ?_); obtain ⟨g11, hg11⟩ : ∃ g, g = wq.heap.size := ⟨_, rfl⟩; rw [← hg11]; have HG11 := Aside0.mk hg11; clear hg11)
              | ((with_reducible refine gate_store (t := 27) (p := 11) (v := .tmp 57) rfl ?_); (refine wpList_store_row rfl 27 (.tmp 11) (.tmp 57) rfl g11 (cS y) rfl rfl 27 (cS zS) (h_new HG11.out) (by rw [cS_size]; kernel_rfl) (by rw [cS_size, cS_size]) (encI_one _) ?_); obtain ⟨ws, hws⟩ : ∃ W, (wq.alloc (.cells (cS zS) 27)).setRow g11 (cS y) = W := ⟨_, rfl⟩; refine at_world hws ?_; have hs1 : ws.heap[g11]? = some (.cells (cS y) 27 (0, 0)) := (by rw [← hws]; exact setRow_heap _ _ _ _ _ _ (h_new HG11.out)); have hsb : Below wq.heap.size wq ws := (by rw [← hws]; exact below_setRow (below_alloc (Below.refl _ _) _) (by rw [HG11.out]; exact Nat.le_refl _)); have HS5 := Aside0.mk (⟨HQ.out.1.next hsb, at_next HQ.out.2.1 hsb, Kd.C_below HQ.out.2.2.1 hsb, hs1, below_tr HQ.out.2.2.2 hsb HQ.out.2.2.2.size, (Array.getElem?_eq_some_iff.1 HQ.out.2.1).1, hsb⟩ : _ ∧ _ ∧ _ ∧ _ ∧ _ ∧ _ ∧ _); have hxk := (HS5.out.2.2.2.2.1.cell (World.block_lt_of_cell? _ _ (at_L0 HAT.out))).trans (at_L0 HAT.out); clear hs1 hsb hws hx0)
              | (go_at_call 23; (with_reducible refine (BitR_calls z.k HZ.out.2.1 ws 0 HBIT.out).mono ?_); rintro e w6 ⟨rfl, hb6⟩; have H6 := Aside0.mk (⟨HS5.out.1.next hb6, at_next HS5.out.2.1 hb6, Kd.C_below HS5.out.2.2.1 hb6, at_next HS5.out.2.2.2.1 hb6⟩ : _ ∧ _ ∧ _ ∧ _); clear hb6 hxk))
            have HE := Aside0.mk (⟨H6.out.1, H6.out.2.1, H6.out.2.2.1, by rw [HXY.out]; exact H6.out.2.2.2⟩ : HvSt w (some ad) c l g x y w6 ∧ w6.heap[g10]? = some (.cells C4 36 (0, 0)) ∧ kS.C w6 A4 p.p.length p.p ∧ w6.heap[g11]? = some (.cells (cS hd) 27 (0, 0)))
            obtain ⟨rs, hrs⟩ := HHD.out
            have hp1 : 0 < p.p.length := by rw [hrs]; simp
            obtain ⟨ad4, eA4, hat4⟩ := at_flat HE.out.2.2.1 zS (0 : Int) (by omega) (by omega)
            subst eA4
            have hat4' : ∀ j u, (cS hd).toList[j]? = some u → w6.cell? (ad4.add j) = some u := fun j u hj => by
              have h := hat4 j u (by rw [hrs]; exact hj)
              rwa [show ((0 : Int).toNat * 32) = 0 from rfl, Addr.add_zero'] at h
            have HAT4 := Aside0.mk hat4'
            have hlt1 : ((p.p.length : Int) < 1) = False := eq_false (by omega)
            have h0c : ((0 : Int) < (p.p.length : Int)) = True := eq_true (by omega)
            have h0n : (0 < p.p.length) = True := eq_true hp1
            have hc4 := HC4.out.1
            have HC5 := Aside0.mk (show ∀ W, Below w6.heap.size w6 W → W.cell? ⟨g10, 0, none⟩ = some (.slice (some ad4) p.p.length c4) from fun W hb => by have h := at_next HE.out.2.1 hb; rw [hc4] at h; exact cell_P0 h)
            clear hrs hat4 hat4' hc4
            as_aux_lemma =>
              refine start_ (n := 12) (S := fun w' => Below w6.heap.size w6 w') (ds := []) #[false, false, false, false, false, false, false, false, false, false, false, false] (by kernel_rfl) rfl rfl (Below.refl _ _).drew (fun hHeld => ?_)
              refine pure_ (i := 0) (N := some 66) (v := ?_) (a' := ?_) #[true, false, false, false, false, false, false, false, false, false, false, false] rfl rfl (by kernel_rfl) (fun _ _ _ h => h) (Or.inl ⟨by rfl, ?_⟩) ?_ ?_
              rotate_left
              · intro w'
                go_simp
                with_reducible rfl
              rotate_left
              · simp only [Act.put, List.setIfInBounds_toArray, List.set_cons_zero, List.set_cons_succ, i64_w, i32_w]
                rfl
              refine take_ (i := 1) (N := some 67) (v := ?_) (a' := ?_) #[true, true, false, false, false, false, false, false, false, false, false, false] rfl rfl (by kernel_rfl) (fun _ _ _ h => h) (Or.inl ⟨by rfl, ?_⟩) hHeld ?_ ?_
              rotate_left
              · intro w' hS
                have hx := HC5.out w' hS
                go_simp
                with_reducible rfl
              rotate_left
              · simp only [Act.put, List.setIfInBounds_toArray, List.set_cons_zero, List.set_cons_succ, i64_w, i32_w]
                rfl
              refine pure_ (i := 2) (N := some 68) (v := ?_) (a' := ?_) #[true, true, true, false, false, false, false, false, false, false, false, false] rfl rfl (by kernel_rfl) (fun _ _ _ h => h) (Or.inl ⟨by rfl, ?_⟩) ?_ ?_
              rotate_left
              · intro w'
                go_simp
                with_reducible rfl
              rotate_left
              · simp only [Act.put, List.setIfInBounds_toArray, List.set_cons_zero, List.set_cons_succ, i64_w, i32_w]
                rfl
              refine pure_ (i := 3) (N := some 69) (v := ?_) (a' := ?_) #[true, true, true, true, false, false, false, false, false, false, false, false] rfl rfl (by kernel_rfl) (fun _ _ _ h => h) (Or.inl ⟨by rfl, ?_⟩) ?_ ?_
              rotate_left
              · intro w'
                go_simp
                with_reducible rfl
              rotate_left
              · simp only [Act.put, List.setIfInBounds_toArray, List.set_cons_zero, List.set_cons_succ, i64_w, i32_w]
                rfl
              refine pure_ (i := 4) (N := some 70) (v := ?_) (a' := ?_) #[true, true, true, true, true, false, false, false, false, false, false, false] rfl rfl (by kernel_rfl) (fun _ _ _ h => h) (Or.inl ⟨by rfl, ?_⟩) ?_ ?_
              rotate_left
              · intro w'
                go_simp
                with_reducible rfl
              rotate_left
              · simp only [Act.put, List.setIfInBounds_toArray, List.set_cons_zero, List.set_cons_succ, i64_w, i32_w]
                rfl
              refine pure_ (i := 5) (N := some 71) (v := ?_) (a' := ?_) #[true, true, true, true, true, true, false, false, false, false, false, false] rfl rfl (by kernel_rfl) (fun _ _ _ h => h) (Or.inl ⟨by rfl, ?_⟩) ?_ ?_
              rotate_left
              · intro w'
                go_simp
                with_reducible rfl
              rotate_left
              · simp only [Act.put, List.setIfInBounds_toArray, List.set_cons_zero, List.set_cons_succ, i64_w, i32_w]
                rfl
              refine take_ (i := 6) (N := some 72) (v := ?_) (a' := ?_) #[true, true, true, true, true, true, true, false, false, false, false, false] rfl rfl (by kernel_rfl) (fun _ _ _ h => h) (Or.inl ⟨by rfl, ?_⟩) hHeld ?_ ?_
              rotate_left
              · intro w' hS
                have hx := HC5.out w' hS
                go_simp
                with_reducible rfl
              rotate_left
              · simp only [Act.put, List.setIfInBounds_toArray, List.set_cons_zero, List.set_cons_succ, i64_w, i32_w]
                rfl
              refine pure_ (i := 7) (N := some 73) (v := ?_) (a' := ?_) #[true, true, true, true, true, true, true, true, false, false, false, false] rfl rfl (by kernel_rfl) (fun _ _ _ h => h) (Or.inl ⟨by rfl, ?_⟩) ?_ ?_
              rotate_left
              · intro w'
                go_simp
                with_reducible rfl
              rotate_left
              · simp only [Act.put, List.setIfInBounds_toArray, List.set_cons_zero, List.set_cons_succ, i64_w, i32_w]
                rfl
              refine take_ (i := 8) (N := some 74) (v := .agg (cS hd)) (a' := ?_) #[true, true, true, true, true, true, true, true, true, false, false, false] rfl rfl (by kernel_rfl) (fun _ _ _ h => h) (Or.inl ⟨by rfl, fun w' hS => yield_load _ _ rfl _ rfl (le_S HAT4.out hS 0)⟩) hHeld ?_ ?_
              rotate_left
              · simp only [Act.put, List.setIfInBounds_toArray, List.set_cons_zero, List.set_cons_succ, i64_w, i32_w]
                rfl
              refine take_ (i := 9) (N := some 75) (v := .agg (cS hd)) (a' := ?_) #[true, true, true, true, true, true, true, true, true, true, false, false] rfl rfl (by kernel_rfl) (fun _ _ _ h => h) (Or.inl ⟨by rfl, fun w' hS => yield_load _ _ rfl _ rfl (ld_S (at_next HE.out.2.2.2 hS) 0)⟩) hHeld ?_ ?_
              rotate_left
              · simp only [Act.put, List.setIfInBounds_toArray, List.set_cons_zero, List.set_cons_succ, i64_w, i32_w]
                rfl
              refine pure_ (i := 10) (N := some 76) (v := .bool false) (a' := ?_) #[true, true, true, true, true, true, true, true, true, true, true, false] rfl rfl (by kernel_rfl) (fun _ _ _ h => h) (Or.inl ⟨by rfl, fun w' => yield_neq _ _ _ _ rfl _ _ rfl rfl gt_S (eqS_r w' hd)⟩) ?_ ?_
              rotate_left
              · simp only [Act.put, List.setIfInBounds_toArray, List.set_cons_zero, List.set_cons_succ, i64_w, i32_w]
                rfl
              refine pure_ (i := 11) (N := some 77) (v := ?_) (a' := ?_) #[true, true, true, true, true, true, true, true, true, true, true, true] rfl rfl (by kernel_rfl) (fun _ _ _ h => h) (Or.inl ⟨by rfl, ?_⟩) ?_ ?_
              rotate_left
              · intro w'
                go_simp
                with_reducible rfl
              rotate_left
              · simp only [Act.put, List.setIfInBounds_toArray, List.set_cons_zero, List.set_cons_succ, i64_w, i32_w]
                rfl
              have HN := Aside0.mk (HE.out.1.next hHeld)
              clear hHeld
              refine done_ (by kernel_rfl) ?_
              obtain ⟨w8, hw8⟩ : ∃ W, W = w6.drew := ⟨_, rfl⟩
              rw [← hw8] at HN ⊢
              clear hw8
              go_wp2
              exact ⟨⟨n + 1, by simp, by omega, HN⟩, by simp [intOf]; omega⟩
          · have hbe : bitI (hk z.k) 0 = 1 := hbit
            obtain ⟨hd, hhd⟩ : ∃ hd : Sm, hd = x := ⟨_, rfl⟩
            have HHD := Aside0.mk (show ∃ rs, p.p = hd :: rs by obtain ⟨rs, hrs⟩ := hph; rw [hbe] at hrs; exact ⟨rs, by rw [hrs, hhd]; rw [if_pos rfl]⟩)
            have HXY := Aside0.mk hhd
            have HBIT := Aside0.mk hbe
            clear hhd hbit hbe hph
            go_wp2_with (first
              | (go_at_call 14; (with_reducible refine (ProveR_calls l z.k (some ad) c wr HR.out.words HR.out.row HL.out.2 HZ.out.2.1 p HZ.out.1).mono ?_); rintro e w4 ⟨A4, c4, C4, hC4, rfl, hp4, hb4⟩; have HC4 := Aside0.mk (⟨hC4, hp4, HR.out.next hb4, hb4⟩ : _ ∧ _ ∧ _ ∧ _); clear hC4 hp4 hb4)
              | ((with_reducible refine gate_dst (N := 10) rfl ?_); (refine wpList_allocz rfl 36 Z36 rfl HZ36.out.1 ?_))
              | ((with_reducible refine gate_store (t := 36) (p := 10) rfl ?_); (refine wpList_store_row rfl 36 (.tmp 10) (.tmp 56) rfl w4.heap.size C4 rfl rfl 36 Z36 (h_new rfl) (by rw [HC4.out.1, cP_size]; kernel_rfl) (by rw [HC4.out.1, cP_size, HZ36.out.2]) (all_one (by rw [HC4.out.1]; exact cP_one rfl _ _)) ?_); generalize hwv : World.setRow _ w4.heap.size C4 = wq; have hy1 : wq.heap[w4.heap.size]? = some (.cells C4 36 (0, 0)) := (by rw [← hwv]; exact setRow_heap _ _ _ _ _ _ (h_new rfl)); have hyb : Below w4.heap.size w4 wq := (by rw [← hwv]; exact below_setRow (below_alloc (Below.refl _ _) _) (Nat.le_refl _)); clear hwv; obtain ⟨g10, hg10⟩ : ∃ g, g = w4.heap.size := ⟨_, rfl⟩; rw [← hg10] at hy1 ⊢; have HQ := Aside0.mk (⟨HC4.out.2.2.1.next hyb, hy1, Kd.C_below HC4.out.2.1 hyb, below_tr HC4.out.2.2.2 hyb HC4.out.2.2.2.size⟩ : _ ∧ _ ∧ _ ∧ _); clear hy1 hyb hg10)
              | ((with_reducible refine gate_dst (N := 57) rfl ?_); (refine wpList_loadv rfl 27 _ rfl _ rfl _ ((ld_S HQ.out.1.by_) 0) ?_))
              | ((with_reducible refine gate_dst (N := 11) rfl ?_); (refine wpList_allocz rfl 27 (cS zS) rfl zero27 ?_); obtain ⟨g11, hg11⟩ : ∃ g, g = wq.heap.size := ⟨_, rfl⟩; rw [← hg11]; have HG11 := Aside0.mk hg11; clear hg11)
              | ((with_reducible refine gate_store (t := 27) (p := 11) (v := .tmp 57) rfl ?_); (refine wpList_store_row rfl 27 (.tmp 11) (.tmp 57) rfl g11 (cS y) rfl rfl 27 (cS zS) (h_new HG11.out) (by rw [cS_size]; kernel_rfl) (by rw [cS_size, cS_size]) (encI_one _) ?_); obtain ⟨ws, hws⟩ : ∃ W, (wq.alloc (.cells (cS zS) 27)).setRow g11 (cS y) = W := ⟨_, rfl⟩; refine at_world hws ?_; have hs1 : ws.heap[g11]? = some (.cells (cS y) 27 (0, 0)) := (by rw [← hws]; exact setRow_heap _ _ _ _ _ _ (h_new HG11.out)); have hsb : Below wq.heap.size wq ws := (by rw [← hws]; exact below_setRow (below_alloc (Below.refl _ _) _) (by rw [HG11.out]; exact Nat.le_refl _)); have HS5 := Aside0.mk (⟨HQ.out.1.next hsb, at_next HQ.out.2.1 hsb, Kd.C_below HQ.out.2.2.1 hsb, hs1, below_tr HQ.out.2.2.2 hsb HQ.out.2.2.2.size, (Array.getElem?_eq_some_iff.1 HQ.out.2.1).1, hsb⟩ : _ ∧ _ ∧ _ ∧ _ ∧ _ ∧ _ ∧ _); have hxk := (HS5.out.2.2.2.2.1.cell (World.block_lt_of_cell? _ _ (at_L0 HAT.out))).trans (at_L0 HAT.out); clear hs1 hsb hws hx0)
              | (go_at_call 23; (with_reducible refine (BitR_calls z.k HZ.out.2.1 ws 1 HBIT.out).mono ?_); rintro e w6 ⟨rfl, hb6⟩; have H6 := Aside0.mk (⟨HS5.out.1.next hb6, at_next HS5.out.2.1 hb6, Kd.C_below HS5.out.2.2.1 hb6, at_next HS5.out.2.2.2.1 hb6⟩ : _ ∧ _ ∧ _ ∧ _); have HS6 := Aside0.mk (below_tr HS5.out.2.2.2.2.2.2 hb6 HS5.out.2.2.2.2.2.2.size); clear hb6 hxk)
              | ((with_reducible refine gate_dst (N := 65) rfl ?_); (refine wpList_loadv rfl 27 _ rfl _ rfl _ ((ld_S H6.out.1.bx) 0) ?_))
              | ((with_reducible refine gate_store (t := 27) (p := 11) (v := .tmp 65) rfl ?_); (refine wpList_store_row rfl 27 (.tmp 11) (.tmp 65) rfl g11 (cS x) rfl rfl 27 (cS y) H6.out.2.2.2 (by rw [cS_size]; kernel_rfl) (by rw [cS_size, cS_size]) (encI_one _) ?_); obtain ⟨w7, hw7⟩ : ∃ W, w6.setRow g11 (cS x) = W := ⟨_, rfl⟩; refine at_world hw7 ?_; have h71 : w7.heap[g11]? = some (.cells (cS x) 27 (0, 0)) := (by rw [← hw7]; exact setRow_heap _ _ _ _ _ _ H6.out.2.2.2); have hlt : wq.heap.size ≤ g11 := (by rw [HG11.out]; exact Nat.le_refl _); have h7q : Below wq.heap.size wq w7 := (by rw [← hw7]; exact below_setRow HS6.out hlt); have H7 := Aside0.mk (⟨HQ.out.1.next h7q, at_next HQ.out.2.1 h7q, Kd.C_below HQ.out.2.2.1 h7q, h71⟩ : _ ∧ _ ∧ _ ∧ _); clear h71 h7q hlt hw7))
            have HE := Aside0.mk (⟨H7.out.1, H7.out.2.1, H7.out.2.2.1, by rw [HXY.out]; exact H7.out.2.2.2⟩ : HvSt w (some ad) c l g x y w7 ∧ w7.heap[g10]? = some (.cells C4 36 (0, 0)) ∧ kS.C w7 A4 p.p.length p.p ∧ w7.heap[g11]? = some (.cells (cS hd) 27 (0, 0)))
            obtain ⟨rs, hrs⟩ := HHD.out
            have hp1 : 0 < p.p.length := by rw [hrs]; simp
            obtain ⟨ad4, eA4, hat4⟩ := at_flat HE.out.2.2.1 zS (0 : Int) (by omega) (by omega)
            subst eA4
            have hat4' : ∀ j u, (cS hd).toList[j]? = some u → w7.cell? (ad4.add j) = some u := fun j u hj => by
              have h := hat4 j u (by rw [hrs]; exact hj)
              rwa [show ((0 : Int).toNat * 32) = 0 from rfl, Addr.add_zero'] at h
            have HAT4 := Aside0.mk hat4'
            have hlt1 : ((p.p.length : Int) < 1) = False := eq_false (by omega)
            have h0c : ((0 : Int) < (p.p.length : Int)) = True := eq_true (by omega)
            have h0n : (0 < p.p.length) = True := eq_true hp1
            have hc4 := HC4.out.1
            have HC5 := Aside0.mk (show ∀ W, Below w7.heap.size w7 W → W.cell? ⟨g10, 0, none⟩ = some (.slice (some ad4) p.p.length c4) from fun W hb => by have h := at_next HE.out.2.1 hb; rw [hc4] at h; exact cell_P0 h)
            clear hrs hat4 hat4' hc4
            as_aux_lemma =>
              refine start_ (n := 12) (S := fun w' => Below w7.heap.size w7 w') (ds := []) #[false, false, false, false, false, false, false, false, false, false, false, false] (by kernel_rfl) rfl rfl (Below.refl _ _).drew (fun hHeld => ?_)
              refine pure_ (i := 0) (N := some 66) (v := ?_) (a' := ?_) #[true, false, false, false, false, false, false, false, false, false, false, false] rfl rfl (by kernel_rfl) (fun _ _ _ h => h) (Or.inl ⟨by rfl, ?_⟩) ?_ ?_
              rotate_left
              · intro w'
                go_simp
                with_reducible rfl
              rotate_left
              · simp only [Act.put, List.setIfInBounds_toArray, List.set_cons_zero, List.set_cons_succ, i64_w, i32_w]
                rfl
              refine take_ (i := 1) (N := some 67) (v := ?_) (a' := ?_) #[true, true, false, false, false, false, false, false, false, false, false, false] rfl rfl (by kernel_rfl) (fun _ _ _ h => h) (Or.inl ⟨by rfl, ?_⟩) hHeld ?_ ?_
              rotate_left
              · intro w' hS
                have hx := HC5.out w' hS
                go_simp
                with_reducible rfl
              rotate_left
              · simp only [Act.put, List.setIfInBounds_toArray, List.set_cons_zero, List.set_cons_succ, i64_w, i32_w]
                rfl
              refine pure_ (i := 2) (N := some 68) (v := ?_) (a' := ?_) #[true, true, true, false, false, false, false, false, false, false, false, false] rfl rfl (by kernel_rfl) (fun _ _ _ h => h) (Or.inl ⟨by rfl, ?_⟩) ?_ ?_
              rotate_left
              · intro w'
                go_simp
                with_reducible rfl
              rotate_left
              · simp only [Act.put, List.setIfInBounds_toArray, List.set_cons_zero, List.set_cons_succ, i64_w, i32_w]
                rfl
              refine pure_ (i := 3) (N := some 69) (v := ?_) (a' := ?_) #[true, true, true, true, false, false, false, false, false, false, false, false] rfl rfl (by kernel_rfl) (fun _ _ _ h => h) (Or.inl ⟨by rfl, ?_⟩) ?_ ?_
              rotate_left
              · intro w'
                go_simp
                with_reducible rfl
              rotate_left
              · simp only [Act.put, List.setIfInBounds_toArray, List.set_cons_zero, List.set_cons_succ, i64_w, i32_w]
                rfl
              refine pure_ (i := 4) (N := some 70) (v := ?_) (a' := ?_) #[true, true, true, true, true, false, false, false, false, false, false, false] rfl rfl (by kernel_rfl) (fun _ _ _ h => h) (Or.inl ⟨by rfl, ?_⟩) ?_ ?_
              rotate_left
              · intro w'
                go_simp
                with_reducible rfl
              rotate_left
              · simp only [Act.put, List.setIfInBounds_toArray, List.set_cons_zero, List.set_cons_succ, i64_w, i32_w]
                rfl
              refine pure_ (i := 5) (N := some 71) (v := ?_) (a' := ?_) #[true, true, true, true, true, true, false, false, false, false, false, false] rfl rfl (by kernel_rfl) (fun _ _ _ h => h) (Or.inl ⟨by rfl, ?_⟩) ?_ ?_
              rotate_left
              · intro w'
                go_simp
                with_reducible rfl
              rotate_left
              · simp only [Act.put, List.setIfInBounds_toArray, List.set_cons_zero, List.set_cons_succ, i64_w, i32_w]
                rfl
              refine take_ (i := 6) (N := some 72) (v := ?_) (a' := ?_) #[true, true, true, true, true, true, true, false, false, false, false, false] rfl rfl (by kernel_rfl) (fun _ _ _ h => h) (Or.inl ⟨by rfl, ?_⟩) hHeld ?_ ?_
              rotate_left
              · intro w' hS
                have hx := HC5.out w' hS
                go_simp
                with_reducible rfl
              rotate_left
              · simp only [Act.put, List.setIfInBounds_toArray, List.set_cons_zero, List.set_cons_succ, i64_w, i32_w]
                rfl
              refine pure_ (i := 7) (N := some 73) (v := ?_) (a' := ?_) #[true, true, true, true, true, true, true, true, false, false, false, false] rfl rfl (by kernel_rfl) (fun _ _ _ h => h) (Or.inl ⟨by rfl, ?_⟩) ?_ ?_
              rotate_left
              · intro w'
                go_simp
                with_reducible rfl
              rotate_left
              · simp only [Act.put, List.setIfInBounds_toArray, List.set_cons_zero, List.set_cons_succ, i64_w, i32_w]
                rfl
              refine take_ (i := 8) (N := some 74) (v := .agg (cS hd)) (a' := ?_) #[true, true, true, true, true, true, true, true, true, false, false, false] rfl rfl (by kernel_rfl) (fun _ _ _ h => h) (Or.inl ⟨by rfl, fun w' hS => yield_load _ _ rfl _ rfl (le_S HAT4.out hS 0)⟩) hHeld ?_ ?_
              rotate_left
              · simp only [Act.put, List.setIfInBounds_toArray, List.set_cons_zero, List.set_cons_succ, i64_w, i32_w]
                rfl
              refine take_ (i := 9) (N := some 75) (v := .agg (cS hd)) (a' := ?_) #[true, true, true, true, true, true, true, true, true, true, false, false] rfl rfl (by kernel_rfl) (fun _ _ _ h => h) (Or.inl ⟨by rfl, fun w' hS => yield_load _ _ rfl _ rfl (ld_S (at_next HE.out.2.2.2 hS) 0)⟩) hHeld ?_ ?_
              rotate_left
              · simp only [Act.put, List.setIfInBounds_toArray, List.set_cons_zero, List.set_cons_succ, i64_w, i32_w]
                rfl
              refine pure_ (i := 10) (N := some 76) (v := .bool false) (a' := ?_) #[true, true, true, true, true, true, true, true, true, true, true, false] rfl rfl (by kernel_rfl) (fun _ _ _ h => h) (Or.inl ⟨by rfl, fun w' => yield_neq _ _ _ _ rfl _ _ rfl rfl gt_S (eqS_r w' hd)⟩) ?_ ?_
              rotate_left
              · simp only [Act.put, List.setIfInBounds_toArray, List.set_cons_zero, List.set_cons_succ, i64_w, i32_w]
                rfl
              refine pure_ (i := 11) (N := some 77) (v := ?_) (a' := ?_) #[true, true, true, true, true, true, true, true, true, true, true, true] rfl rfl (by kernel_rfl) (fun _ _ _ h => h) (Or.inl ⟨by rfl, ?_⟩) ?_ ?_
              rotate_left
              · intro w'
                go_simp
                with_reducible rfl
              rotate_left
              · simp only [Act.put, List.setIfInBounds_toArray, List.set_cons_zero, List.set_cons_succ, i64_w, i32_w]
                rfl
              have HN := Aside0.mk (HE.out.1.next hHeld)
              clear hHeld
              refine done_ (by kernel_rfl) ?_
              obtain ⟨w8, hw8⟩ : ∃ W, W = w7.drew := ⟨_, rfl⟩
              rw [← hw8] at HN ⊢
              clear hw8
              go_wp2
              exact ⟨⟨n + 1, by simp, by omega, HN⟩, by simp [intOf]; omega⟩
        · obtain rfl : n = l.length := by omega
          go_wp2
          go_ret
          exact ⟨rfl, HR.out.below⟩
end Go.Proofs.YtanabbjakacgbaaDoor.Sp

