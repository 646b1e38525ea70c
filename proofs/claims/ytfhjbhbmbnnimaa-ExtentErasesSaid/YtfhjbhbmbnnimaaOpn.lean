/- Reading of arguments as plain values: a type's cells that are read as data are of the print's kind, and each number and size is in its range. No program of the law is walked here. -/
import Derived.Test.YtfhjbhbmbnnimaaV0
import Derived.OpenShut
import Derived.ChangeOld
import Derived.SizedLaws
import Derived.Carry
import Derived.Deep.Slices
namespace Go.Proofs.Ytfhjbhbmbnnimaa.Opn
open Go.RowKit Go.WideShapes Go.ChangeShapes Go.Deep Go.Proofs.YtfhjbhbmbnnimaaW.PrintWords

/-- A type's cells, read as data, are of a kind, and what is read fits. -/
structure Opn (P : Program) (t : TypeId) {α : Type} (d : Kd α) (F : α → Prop) : Prop where
 size : P.cellsOf t = d.sz
 get : ∀ {H : Type} {enc : TypeId × Value → H} {w : World} {base : Nat} {spare : Nat → Bool} {held : Bool} {fuel : Nat} {cs : List Value} {x : DataW H × List MemPlace},
  DataW.trod enc P w base spare held fuel t cs = some x → (∀ n ∈ x.1.weights P t, n ≤ reachBytes) → ∃ a : α, d.K w a cs ∧ F a

section
variable {P : Program} {t : TypeId}

theorem Opn.int {k : IntKind} (h : P.underlying t = some (.int k)) (hc : P.cellsOf t = 1) : Opn P t (Kd.int k) (fun n => (Lit.int k n).wf = true) :=
 ⟨hc, fun h1 _ => by
  obtain ⟨n, rfl, _, hw⟩ := DataW.trod_int h h1
  exact ⟨n, rfl, hw⟩⟩

theorem Opn.bool (h : P.underlying t = some .bool) (hc : P.cellsOf t = 1) : Opn P t Kd.bool (fun _ => True) :=
 ⟨hc, fun h1 _ => by
  obtain ⟨n, rfl, _⟩ := DataW.trod_bool h h1
  exact ⟨n, rfl, trivial⟩⟩

theorem Opn.string (h : P.underlying t = some .string) (hc : P.cellsOf t = 1) : Opn P t Kd.string (fun s => s.size ≤ 140737488351232) :=
 ⟨hc, fun h1 hz => by
  obtain ⟨s, rfl, rfl, _⟩ := DataW.trod_string h h1
  refine ⟨s, rfl, ?_⟩
  have := hz s.data.toList.length (by simp [DataW.weights])
  simpa [reachBytes] using this⟩

theorem weights_all {H : Type} {e : TypeId} : ∀ {l : List (DataW H)} {y : DataW H}, y ∈ l → ∀ n ∈ y.weights P e, n ∈ DataW.weightsAll P e l
 | d :: r, y, hy, n, hn => by
  simp only [DataW.weightsAll, List.mem_append]
  rcases List.mem_cons.1 hy with rfl | hy
  ·exact Or.inl hn
  ·exact Or.inr (weights_all hy n hn)

theorem Opn.slice {α : Type} {d : Kd α} {F : α → Prop} [Inhabited α] {e : TypeId} {B : Nat} (h : P.underlying t = some (.slice e)) (hc : P.cellsOf t = 1) (hB : P.bytesOf e = B) (o : Opn P e d F) :
  Opn P t (Kd.slice e d) (fun l => l.length ≤ maxLen ∧ l.length * B ≤ 140737488351232 ∧ ∀ x ∈ l, F x) := by
 refine ⟨hc, fun {H enc w base spare held fuel cs x} h1 hz => ?_⟩
 rcases open_slice h h1 with ⟨rfl, rfl⟩ | ⟨a, len, cap, m, n, D, Pl, rfl, hb, hl, hm, hmm, rfl, hx⟩
 ·exact ⟨[], ⟨none, 0, rfl, Nat.le_refl _, rfl, by simp, fun h0 => absurd h0 (Nat.lt_irrefl _)⟩, by simp [maxLen], by simp, fun _ hy => by cases hy⟩
 ·have hle : len ≤ m := by rw [hmm]; split <;> omega
  have key : ∀ i, i < len → ∃ y : α, ∃ cs', w.cells? base (a.add (i * P.cellsOf e)) (P.cellsOf e) = some cs' ∧ d.K w y cs' ∧ F y := by
   intro i hi
   obtain ⟨cs', h2, h3⟩ := hx i (by omega)
   obtain ⟨y, hy1, hy2⟩ := o.get h3 (fun q hq => hz q (by
    simp only [DataW.weights, h]
    refine List.mem_cons_of_mem _ (List.mem_append_left _ (weights_all (y := D i) ?_ q hq))
    exact List.mem_map.2 ⟨i, List.mem_range.2 hi, rfl⟩))
   exact ⟨y, cs', h2, hy1, hy2⟩
  obtain ⟨X, hX⟩ := choose_lt key
  have hlen : ((List.range len).map X).length = len := by simp
  have hbytes := hz ((((List.range len).map D).length + ((List.range (m - len)).map fun j => D (len + j)).length) * P.bytesOf e) (by simp only [DataW.weights, h]; exact List.mem_cons_self)
  rw [hB] at hbytes
  simp only [List.length_map, List.length_range, reachBytes] at hbytes
  have hmax : (9223372036854775807 : Nat) = maxLen := by decide +kernel
  refine ⟨(List.range len).map X, ⟨some a, cap, by rw [hlen], by rw [hlen]; exact hl, by rw [hlen], by rw [hlen]; have := hm; rw [← hmax] at this; omega, fun _ => ⟨a, rfl, fun j y hj => ?_⟩⟩, by rw [hlen]; omega, ?_, ?_⟩
  ·have hj' : j < len := by have := (List.getElem?_eq_some_iff.1 hj).1; rwa [hlen] at this
   have hy : X j = y := by simpa [List.getElem?_map, List.getElem?_range hj'] using hj
   subst hy
   obtain ⟨cs', h2, h3, _⟩ := hX j hj'
   obtain ⟨_, hcl, hcell⟩ := World.cells?_some h2
   refine ⟨cs', d.K_len h3, h3, fun i u hu => ?_⟩
   have hi : i < P.cellsOf e := by have := (List.getElem?_eq_some_iff.1 hu).1; rw [hcl] at this; exact this
   rw [← o.size, ← Go.Deep.add_add, hcell i hi]
   exact hu
  ·rw [hlen]; exact Nat.le_trans (Nat.mul_le_mul_right _ hle) (by rw [show m = len + (m - len) by omega]; exact hbytes)
  ·intro y hy
   obtain ⟨i, hi, rfl⟩ := List.mem_map.1 hy
   obtain ⟨_, _, _, h4⟩ := hX i (List.mem_range.1 hi)
   exact h4

/-- Fields in line from a place on. -/
structure OpnL (P : Program) (fs : List Field) (o : Nat) {α : Type} (d : Kd α) (F : α → Prop) : Prop where
 get : ∀ {H : Type} {enc : TypeId × Value → H} {w : World} {base : Nat} {spare : Nat → Bool} {held : Bool} {fuel : Nat} {cs : List Value} {xs : List (DataW H × List MemPlace)}, xs.length = fs.length →
  (∀ (i : Nat) (f : Field), fs[i]? = some f → DataW.trod enc P w base spare held fuel f.type ((cs.drop f.offset).take (P.cellsOf f.type)) = xs[i]?) →
  (∀ n ∈ DataW.weightsEach P (fs.map (·.type)) (xs.map (·.1)), n ≤ reachBytes) → ∃ a : α, d.K w a ((cs.drop o).take d.sz) ∧ F a

theorem OpnL.one {α : Type} {d : Kd α} {F : α → Prop} {f : Field} {o : Nat} (ho : f.offset = o) (h : Opn P f.type d F) : OpnL P [f] o d F := by
 refine ⟨fun {H enc w base spare held fuel cs xs} hl hx hz => ?_⟩
 match xs, hl with
 | [x], _ =>
  have h0 := hx 0 f rfl
  simp only [List.getElem?_cons_zero] at h0
  rw [h.size, ho] at h0
  exact h.get h0 (fun n hn => hz n (by simpa [DataW.weightsEach] using hn))

theorem OpnL.cons {α β : Type} {d : Kd α} {F : α → Prop} {d' : Kd β} {F' : β → Prop} {f : Field} {fs : List Field} {o : Nat} (ho : f.offset = o) (h : Opn P f.type d F) (h' : OpnL P fs (o + d.sz) d' F') :
  OpnL P (f :: fs) o (Kd.pair d d') (fun x => F x.1 ∧ F' x.2) := by
 refine ⟨fun {H enc w base spare held fuel cs xs} hl hx hz => ?_⟩
 match xs, hl with
 | x :: xs, hl =>
  have h0 := hx 0 f rfl
  simp only [List.getElem?_cons_zero] at h0
  rw [h.size, ho] at h0
  obtain ⟨a, ha, fa⟩ := h.get h0 (fun n hn => hz n (by simp only [List.map_cons, DataW.weightsEach]; exact List.mem_append_left _ hn))
  obtain ⟨b, hb, fb⟩ := h'.get (cs := cs) (xs := xs) (by simpa using hl) (fun i g hg => by simpa using hx (i + 1) g (by simpa using hg)) (fun n hn => hz n (by simp only [List.map_cons, DataW.weightsEach]; exact List.mem_append_right _ hn))
  refine ⟨(a, b), ⟨_, _, ?_, ha, hb⟩, fa, fb⟩
  show (cs.drop o).take (d.sz + d'.sz) = _
  rw [List.take_add, List.drop_drop]

theorem Opn.struct {α β : Type} {d : Kd α} {F : α → Prop} {fs : Array Field} (h : P.underlying t = some (.struct fs)) (o : OpnL P fs.toList 0 d F) (f : β → α) (g : α → β) (hfg : ∀ a, f (g a) = a) (hc : P.cellsOf t = d.sz) :
  Opn P t (Kd.iso d f) (fun x => F (f x)) := by
 refine ⟨hc, fun {H enc w base spare held fuel cs x} h1 hz => ?_⟩
 obtain ⟨xs, n, _, rfl, hl, hlen, hf⟩ := DataW.trod_struct h h1
 obtain ⟨a, ha, fa⟩ := o.get (cs := cs) (xs := xs) (by simpa using hlen) (fun i f' hf' => hf i f' (by simpa using hf')) (fun n hn => hz n (by simp only [DataW.weights, h]; exact hn))
 refine ⟨g a, ?_, by rw [hfg]; exact fa⟩
 show d.K w (f (g a)) cs
 rw [hfg]
 have : (cs.drop 0).take d.sz = cs := by rw [List.drop_zero, List.take_of_length_le (by omega)]
 rwa [this] at ha

/-- Elements of an array from a place on. -/
structure OpnA (P : Program) (e : TypeId) (i n : Nat) {α : Type} (d : Kd α) (F : α → Prop) : Prop where
 get : ∀ {H : Type} {enc : TypeId × Value → H} {w : World} {base : Nat} {spare : Nat → Bool} {held : Bool} {fuel : Nat} {cs : List Value} {xs : List (DataW H × List MemPlace)}, xs.length = n →
  (∀ (j : Nat), i ≤ j → j < n → DataW.trod enc P w base spare held fuel e ((cs.drop (j * P.cellsOf e)).take (P.cellsOf e)) = xs[j]?) →
  (∀ q ∈ DataW.weightsAll P e (xs.map (·.1)), q ≤ reachBytes) → ∃ a : α, d.K w a ((cs.drop (i * P.cellsOf e)).take d.sz) ∧ F a

theorem OpnA.one {α : Type} {d : Kd α} {F : α → Prop} {e : TypeId} {i n : Nat} (hi : i < n) (h : Opn P e d F) : OpnA P e i n d F := by
 refine ⟨fun {H enc w base spare held fuel cs xs} hl hx hz => ?_⟩
 have h0 := hx i (Nat.le_refl _) hi
 rw [List.getElem?_eq_getElem (by omega)] at h0
 rw [h.size] at h0 ⊢
 exact h.get h0 (fun q hq => hz q (weights_all (y := (xs[i]'(by omega)).1) (List.mem_map.2 ⟨_, List.getElem_mem _, rfl⟩) q hq))

theorem OpnA.cons {α β : Type} {d : Kd α} {F : α → Prop} {d' : Kd β} {F' : β → Prop} {e : TypeId} {i n : Nat} (hi : i < n) (h : Opn P e d F) (h' : OpnA P e (i + 1) n d' F') : OpnA P e i n (Kd.pair d d') (fun x => F x.1 ∧ F' x.2) := by
 refine ⟨fun {H enc w base spare held fuel cs xs} hl hx hz => ?_⟩
 obtain ⟨a, ha, fa⟩ := (OpnA.one hi h).get (cs := cs) hl hx hz
 obtain ⟨b, hb, fb⟩ := h'.get (cs := cs) hl (fun j hj hjn => hx j (by omega) hjn) hz
 refine ⟨(a, b), ⟨_, _, ?_, ha, hb⟩, fa, fb⟩
 show (cs.drop (i * P.cellsOf e)).take (d.sz + d'.sz) = _
 rw [List.take_add, List.drop_drop, Nat.succ_mul, h.size]

theorem Opn.array {α β : Type} {d : Kd α} {F : α → Prop} {e : TypeId} {n : Nat} (h : P.underlying t = some (.array n e)) (o : OpnA P e 0 n d F) (f : β → α) (g : α → β) (hfg : ∀ a, f (g a) = a) (hc : P.cellsOf t = d.sz) :
  Opn P t (Kd.iso d f) (fun x => F (f x)) := by
 refine ⟨hc, fun {H enc w base spare held fuel cs x} h1 hz => ?_⟩
 obtain ⟨xs, m, _, rfl, hl, hlen, hf⟩ := DataW.trod_array h h1
 obtain ⟨a, ha, fa⟩ := o.get (cs := cs) (xs := xs) hlen (fun j _ hj => hf j hj) (fun q hq => hz q (by simp only [DataW.weights, h]; exact hq))
 refine ⟨g a, ?_, by rw [hfg]; exact fa⟩
 show d.K w (f (g a)) cs
 rw [hfg]
 have : (cs.drop (0 * P.cellsOf e)).take d.sz = cs := by rw [Nat.zero_mul, List.drop_zero, List.take_of_length_le (by omega)]
 rwa [this] at ha

/-- .. of an argument. -/
theorem Opn.arg {α : Type} {d : Kd α} {F : α → Prop} (o : Opn P t d F) {H : Type} {enc : TypeId × Value → H} {w : World} {base : Nat} {spare : Nat → Bool} {held : Bool} {v : Value} {x : DataW H} {ps : List MemPlace} {ts : List TypeId} {ds : List (DataW H)} {j : Nat}
  (hz : (DataW.weightsEach P ts ds).all (· ≤ reachBytes) = true) (ht : ts[j]? = some t) (hd : ds[j]? = some x) (h : DataW.Trod enc P w base spare held t v x ps) : ∃ a : α, d.K w a v.cells.toList ∧ F a := by
 obtain ⟨fuel, hf⟩ := h
 exact o.get hf (fun n hn => by
  have := List.all_eq_true.1 hz _ (DataW.weights_mem_each ht hd n hn)
  simpa using this)

theorem okWide_array {r : Reach} {base : Nat} {w : World} {v : Value} {n : Nat} {e : TypeId} (ht : P.underlying t = some (.array n e)) (h : Value.okWide P w r base t v) : ∃ cs, v = .agg cs := by
 simp only [Value.okWide, ht] at h
 obtain ⟨cs, h1, _, _⟩ := h
 exact ⟨cs, h1⟩

end
end Go.Proofs.Ytfhjbhbmbnnimaa.Opn
