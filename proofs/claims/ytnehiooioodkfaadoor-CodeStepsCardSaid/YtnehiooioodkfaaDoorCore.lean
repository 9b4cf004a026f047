/-
  CORE: who owns which cell of memory. 'Ow' names for each cell the path of the thing that it belongs to; 'Turn p' says that a step has turned cells under p alone (and made new ones); 'Cells' are cells that lie one behind the other in one block (a struct), 'Row' is a slice whose whole block is one owner's, 'Reads' a slice that is only read.
-/
import Derived.WalkKit
import Derived.Deep.QuietTactic
import Derived.BigQuiet
import Derived.Deep.RegionLaw
import Derived.Deep.RegionLawGrows
set_option linter.unusedVariables false
set_option linter.unusedSimpArgs false
namespace Go.Proofs.YtnehiooioodkfaaDoor
open Go Go.RowKit

abbrev Ow := Nat → Nat → List Nat

/-- What a block may turn to. -/
def Keep1 (keep : Nat → Prop) (a b : Option Obj) : Prop :=
  match a with
  | some (.cells c e f) => ∃ c', b = some (.cells c' e f) ∧ c'.size = c.size ∧ ∀ i, keep i → c'[i]? = c[i]?
  | x => keep 0 → b = x

theorem Keep1.refl (keep : Nat → Prop) (a : Option Obj) : Keep1 keep a a := by
  unfold Keep1
  split
  · exact ⟨_, rfl, rfl, fun _ _ => rfl⟩
  · exact fun _ => rfl

theorem Keep1.of_eq {keep : Nat → Prop} {a b : Option Obj} (h : b = a) : Keep1 keep a b := h ▸ Keep1.refl _ _

theorem Keep1.trans {keep : Nat → Prop} {a b c : Option Obj} (h : Keep1 keep a b) (k : Keep1 keep b c) : Keep1 keep a c := by
  unfold Keep1 at h
  split at h
  · obtain ⟨c1, rfl, hs, hi⟩ := h
    obtain ⟨c2, rfl, hs2, hi2⟩ := k
    exact ⟨c2, rfl, hs2.trans hs, fun i hk => (hi2 i hk).trans (hi i hk)⟩
  · rename_i hx
    have key : keep 0 → c = a := by
      intro h0
      have hb := h h0
      subst hb
      unfold Keep1 at k
      split at k
      · rename_i c e f
        exact absurd rfl (hx c e f)
      · exact k h0
    unfold Keep1
    split
    · rename_i c e f
      exact absurd rfl (hx c e f)
    · exact key

theorem Keep1.mono {keep keep' : Nat → Prop} {a b : Option Obj} (h : Keep1 keep a b) (hk : ∀ i, keep' i → keep i) : Keep1 keep' a b := by
  unfold Keep1 at h ⊢
  split at h
  · obtain ⟨c1, rfl, hs, hi⟩ := h
    exact ⟨c1, rfl, hs, fun i hi' => hi i (hk i hi')⟩
  · exact fun h0 => h (hk 0 h0)

/-- From (w, ow) to (w', ow') cells under p alone have turned; old cells keep their owners. -/
structure Turn (p : List Nat) (w : World) (ow : Ow) (w' : World) (ow' : Ow) : Prop where
  os : w'.os = w.os
  tape : w'.tape = w.tape
  output : w'.output = w.output
  size : w.heap.size ≤ w'.heap.size
  own : ∀ b o, b < w.heap.size → ow' b o = ow b o
  blk : ∀ b, b < w.heap.size → Keep1 (fun i => ¬ p <+: ow b i) w.heap[b]? w'.heap[b]?

section
variable {p q : List Nat} {w w1 w2 : World} {ow ow1 ow2 : Ow}

theorem Turn.refl (p : List Nat) (w : World) (ow : Ow) : Turn p w ow w ow := ⟨rfl, rfl, rfl, Nat.le_refl _, fun _ _ _ => rfl, fun _ _ => Keep1.refl _ _⟩

theorem Turn.trans (h : Turn p w ow w1 ow1) (k : Turn p w1 ow1 w2 ow2) : Turn p w ow w2 ow2 :=
  ⟨k.os.trans h.os, k.tape.trans h.tape, k.output.trans h.output, Nat.le_trans h.size k.size,
    fun b o hb => (k.own b o (Nat.lt_of_lt_of_le hb h.size)).trans (h.own b o hb),
    fun b hb => (h.blk b hb).trans ((k.blk b (Nat.lt_of_lt_of_le hb h.size)).mono fun i hi => by rw [h.own b i hb]; exact hi)⟩

theorem Turn.up (h : Turn q w ow w1 ow1) (hp : p <+: q) : Turn p w ow w1 ow1 :=
  ⟨h.os, h.tape, h.output, h.size, h.own, fun b hb => (h.blk b hb).mono fun _ hi hc => hi (List.IsPrefix.trans hp hc)⟩

theorem Turn.drew (h : Turn p w ow w1 ow1) : Turn p w ow w1.drew ow1 := ⟨h.os, h.tape, h.output, h.size, h.own, h.blk⟩
theorem Turn.drewN (h : Turn p w ow w1 ow1) (n : Nat) : Turn p w ow (w1.drewN n) ow1 := ⟨h.os, h.tape, h.output, h.size, h.own, h.blk⟩

/-- A new block's cells get an owner. -/
def Ow.set (ow : Ow) (g : Nat) (q : List Nat) : Ow := fun b o => if b = g then q else ow b o
theorem Ow.set_same (ow : Ow) (g : Nat) (q : List Nat) (o : Nat) : ow.set g q g o = q := by simp [Ow.set]
theorem Ow.set_other (ow : Ow) (g : Nat) (q : List Nat) {b : Nat} (o : Nat) (h : b ≠ g) : ow.set g q b o = ow b o := by simp [Ow.set, h]

/-- New blocks alone. -/
theorem Turn.of_below (p : List Nat) (ow : Ow) (h : Below w.heap.size w w1) (ow1 : Ow) (ho : ∀ b o, b < w.heap.size → ow1 b o = ow b o) : Turn p w ow w1 ow1 :=
  ⟨h.os, h.tape, h.output, h.size, ho, fun b hb => Keep1.of_eq (h.block b hb)⟩

theorem Turn.alloc (h : Turn p w ow w1 ow1) (o : Obj) (q : List Nat) : Turn p w ow (w1.alloc o) (ow1.set w1.heap.size q) :=
  h.trans (Turn.of_below p ow1 ((Below.refl _ _).alloc (Nat.le_refl _) _) _ fun _ _ hb => Ow.set_other _ _ _ _ (by omega))

/-- Owners of new blocks are told at will. -/
theorem Turn.own_ (h : Turn p w ow w1 ow1) (ow2 : Ow) (ho : ∀ b o, b < w.heap.size → ow2 b o = ow1 b o) : Turn p w ow w1 ow2 :=
  ⟨h.os, h.tape, h.output, h.size, fun b o hb => (ho b o hb).trans (h.own b o hb), h.blk⟩

theorem Turn.setCell (h : Turn p w ow w1 ow1) {g o : Nat} (u : Value) (hp : p <+: ow1 g o) : Turn p w ow (w1.setCell ⟨g, o, none⟩ u) ow1 := by
  refine h.trans ⟨rfl, rfl, rfl, by simp [World.setCell], fun _ _ _ => rfl, fun b _ => ?_⟩
  by_cases e : b = g
  · subst e
    unfold Keep1
    split
    · rename_i c t f hc
      refine ⟨c.setIfInBounds o u, ?_, by simp, fun i hi => ?_⟩
      · simp only [World.setCell, Array.getElem?_modify, hc]
        simp
      · by_cases e : i = o
        · subst e; exact absurd hp hi
        · rw [Array.getElem?_setIfInBounds_ne (Ne.symm e)]
    · rename_i x hx
      intro _
      simp only [World.setCell, Array.getElem?_modify]
      cases hh : w1.heap[b]? with
      | none => simp
      | some o' =>
        cases o' with
        | cells c t f => exact absurd hh (hx c t f)
        | _ => simp
  · exact Keep1.of_eq (Below.heap_setCell _ _ _ _ e)

theorem Turn.cell (h : Turn p w ow w1 ow1) {b o : Nat} (hb : b < w.heap.size) (hp : ¬ p <+: ow b o) (hc : (w.cell? ⟨b, o, none⟩).isSome = true) : w1.cell? ⟨b, o, none⟩ = w.cell? ⟨b, o, none⟩ := by
  have hk := h.blk b hb
  unfold World.cell? at hc ⊢
  cases hh : w.heap[b]? with
  | none => simp [hh] at hc
  | some x =>
    cases x with
    | cells c e f =>
      rw [hh] at hk
      obtain ⟨c', he, _, hi⟩ := hk
      simp [he, hi o hp]
    | _ => simp [hh] at hc
end

/-- Cells that lie one behind the other, of one owner. -/
def Cells (w : World) (ow : Ow) (p : List Nat) (g o : Nat) (vs : List Value) : Prop :=
  ∃ c e, w.heap[g]? = some (.cells c e (0, 0)) ∧ ∀ j u, vs[j]? = some u → c[o + j]? = some u ∧ ow g (o + j) = p

section
variable {p q : List Nat} {w w1 : World} {ow ow1 : Ow} {g o : Nat} {vs : List Value}

theorem Cells.lt (h : Cells w ow p g o vs) : g < w.heap.size := by
  obtain ⟨c, e, hg, _⟩ := h
  exact (Array.getElem?_eq_some_iff.1 hg).1

theorem Cells.keep (h : Cells w ow p g o vs) (t : Turn q w ow w1 ow1) (hq : ¬ q <+: p) : Cells w1 ow1 p g o vs := by
  have hlt := h.lt
  obtain ⟨c, e, hg, hc⟩ := h
  have hk := t.blk g hlt
  rw [hg] at hk
  obtain ⟨c', he, hs, hi⟩ := hk
  refine ⟨c', e, he, fun j u hj => ?_⟩
  obtain ⟨h1, h2⟩ := hc j u hj
  exact ⟨(hi (o + j) (by show ¬ q <+: ow g (o + j); rw [h2]; exact hq)).trans h1, (t.own g (o + j) hlt).trans h2⟩

theorem Cells.get (h : Cells w ow p g o vs) (j : Nat) {u : Value} (hj : vs[j]? = some u) : w.cell? ⟨g, o + j, none⟩ = some u := by
  obtain ⟨c, e, hg, hc⟩ := h
  simp [World.cell?, hg, (hc j u hj).1]
theorem Cells.get0 {u : Value} {us : List Value} (h : Cells w ow p g o (u :: us)) : w.cell? ⟨g, o, none⟩ = some u := h.get 0 rfl

theorem Cells.free (h : Cells w ow p g o vs) (i : Nat) : w.frozen? ⟨g, i, none⟩ = false := by
  obtain ⟨c, e, hg, _⟩ := h
  simp [World.frozen?, hg]

theorem Cells.owner (h : Cells w ow p g o vs) (j : Nat) (hj : j < vs.length) : ow g (o + j) = p := by
  obtain ⟨c, e, hg, hc⟩ := h
  exact (hc j vs[j] (by simp [hj])).2

theorem Cells.drew (h : Cells w ow p g o vs) : Cells w.drew ow p g o vs := h
theorem Cells.drewN (h : Cells w ow p g o vs) (n : Nat) : Cells (w.drewN n) ow p g o vs := h

/-- A store to one of the cells. -/
theorem Cells.set (h : Cells w ow p g o vs) (j : Nat) (u : Value) (hj : j < vs.length) : Cells (w.setCell ⟨g, o + j, none⟩ u) ow p g o (vs.set j u) := by
  obtain ⟨c, e, hg, hc⟩ := h
  refine ⟨c.setIfInBounds (o + j) u, e, ?_, fun i v hi => ?_⟩
  · simp only [World.setCell, Array.getElem?_modify, hg]; simp
  · by_cases e : i = j
    · subst e
      have hv := hc i vs[i] (by simp [hj])
      have : v = u := by simpa [hj] using hi.symm
      subst this
      have hlt : o + i < c.size := (Array.getElem?_eq_some_iff.1 hv.1).1
      exact ⟨by simp [hlt], hv.2⟩
    · have hi' : vs[i]? = some v := by rw [List.getElem?_set_ne (Ne.symm e)] at hi; exact hi
      exact ⟨by rw [Array.getElem?_setIfInBounds_ne (by omega)]; exact (hc i v hi').1, (hc i v hi').2⟩
theorem Cells.set0 {u' : Value} {us : List Value} (h : Cells w ow p g o (u' :: us)) (u : Value) : Cells (w.setCell ⟨g, o, none⟩ u) ow p g o (u :: us) := h.set 0 u (by simp)
theorem Cells.turn (h : Cells w ow p g o vs) (j : Nat) (u : Value) (hj : j < vs.length) : Turn p w ow (w.setCell ⟨g, o + j, none⟩ u) ow :=
  (Turn.refl p w ow).setCell u (by rw [h.owner j hj]; exact List.prefix_refl _)

theorem Cells.part (h : Cells w ow p g o vs) (k n : Nat) : Cells w ow p g (o + k) ((vs.drop k).take n) := by
  obtain ⟨c, e, hg, hc⟩ := h
  refine ⟨c, e, hg, fun j u hj => ?_⟩
  have : vs[k + j]? = some u := by
    rw [List.getElem?_take] at hj
    split at hj
    · rw [List.getElem?_drop] at hj; exact hj
    · cases hj
  have := hc (k + j) u this
  rw [Nat.add_assoc]
  exact this

/-- A new block. -/
theorem Cells.new (w : World) (ow : Ow) (q : List Nat) (cs : List Value) (e : TypeId) : Cells (w.alloc (.cells cs.toArray e)) (ow.set w.heap.size q) q w.heap.size 0 cs :=
  ⟨cs.toArray, e, heap_alloc_new _ _, fun j u hj => ⟨by simpa using hj, Ow.set_same _ _ _ _⟩⟩

theorem Cells.alloc (h : Cells w ow p g o vs) (ob : Obj) (q : List Nat) : Cells (w.alloc ob) (ow.set w.heap.size q) p g o vs := by
  have hlt := h.lt
  obtain ⟨c, e, hg, hc⟩ := h
  exact ⟨c, e, (Below.heap_alloc _ _ _ hlt).trans hg, fun j u hj => ⟨(hc j u hj).1, (Ow.set_other _ _ _ _ (by omega)).trans (hc j u hj).2⟩⟩

/-- Cells of two owners lie apart. -/
theorem Cells.ne {vs' : List Value} {g' o' : Nat} (h : Cells w ow p g o vs) (h' : Cells w ow q g' o' vs') (hpq : p ≠ q) {i j : Nat} (hi : i < vs.length) (hj : j < vs'.length) : ¬ (g = g' ∧ o + i = o' + j) := by
  rintro ⟨rfl, e⟩
  exact hpq ((h.owner i hi).symm.trans (e ▸ h'.owner j hj))
end

/-- A slice of n elements of sz cells, whose whole block is p's. -/
def Row (w : World) (ow : Ow) (p : List Nat) (T sz : Nat) (v : Value) (n : Nat) (cs : List Value) : Prop :=
  cs.length = n * sz ∧ ((v = .slice none 0 0 ∧ n = 0) ∨
    ∃ g off cap c, v = .slice (some ⟨g, off, none⟩) n cap ∧ w.heap[g]? = some (.cells c T (0, 0)) ∧ (∀ o, ow g o = p) ∧ n ≤ cap ∧ cap ≤ maxLen ∧ off + cap * sz ≤ c.size ∧
      ∀ j u, cs[j]? = some u → c[off + j]? = some u)

/-- A slice that is read. -/
def Reads (w : World) (v : Value) (n : Nat) (cs : List Value) : Prop :=
  (v = .slice none 0 0 ∧ n = 0 ∧ cs = []) ∨ ∃ g off cap, v = .slice (some ⟨g, off, none⟩) n cap ∧ n ≤ cap ∧ ∀ j u, cs[j]? = some u → w.cell? ⟨g, off + j, none⟩ = some u

section
variable {p q : List Nat} {w w1 : World} {ow ow1 : Ow} {T sz n : Nat} {v : Value} {cs : List Value}

theorem Row.nil (w : World) (ow : Ow) (p : List Nat) (T sz : Nat) : Row w ow p T sz (.slice none 0 0) 0 [] := ⟨by simp, .inl ⟨rfl, rfl⟩⟩

theorem Row.keep (h : Row w ow p T sz v n cs) (t : Turn q w ow w1 ow1) (hq : ¬ q <+: p) : Row w1 ow1 p T sz v n cs := by
  refine ⟨h.1, ?_⟩
  rcases h.2 with h | ⟨g, off, cap, c, hv, hg, ho, hn, hm, hs, hc⟩
  · exact .inl h
  · have hlt : g < w.heap.size := (Array.getElem?_eq_some_iff.1 hg).1
    have hk := t.blk g hlt
    rw [hg] at hk
    obtain ⟨c', he, hs', hi⟩ := hk
    exact .inr ⟨g, off, cap, c', hv, he, fun o => (t.own g o hlt).trans (ho o), hn, hm, by rw [hs']; exact hs, fun j u hj => (hi (off + j) (by show ¬ q <+: ow g (off + j); rw [ho]; exact hq)).trans (hc j u hj)⟩

theorem Row.reads (h : Row w ow p T sz v n cs) : Reads w v n cs := by
  rcases h.2 with ⟨rfl, rfl⟩ | ⟨g, off, cap, c, hv, hg, ho, hn, hm, hs, hc⟩
  · exact .inl ⟨rfl, rfl, List.eq_nil_of_length_eq_zero (by simpa using h.1)⟩
  · exact .inr ⟨g, off, cap, hv, hn, fun j u hj => by simp [World.cell?, hg, hc j u hj]⟩

theorem Row.slice (h : Row w ow p T sz v n cs) : ∃ A c, v = .slice A n c ∧ n ≤ c := by
  rcases h.2 with ⟨rfl, rfl⟩ | ⟨g, off, cap, c, hv, hg, ho, hn, hm, hs, hc⟩
  · exact ⟨_, _, rfl, Nat.le_refl _⟩
  · exact ⟨_, _, hv, hn⟩

/-- Of a row that is not empty: where it lies. -/
theorem Row.at (h : Row w ow p T sz v n cs) (h0 : 0 < n) : ∃ g off cap, v = .slice (some ⟨g, off, none⟩) n cap ∧ n ≤ cap ∧ cap ≤ maxLen ∧ g < w.heap.size ∧ (∀ o, ow g o = p) ∧ (∀ o, w.frozen? ⟨g, o, none⟩ = false) ∧
    (∀ j u, cs[j]? = some u → w.cell? ⟨g, off + j, none⟩ = some u) := by
  rcases h.2 with ⟨rfl, rfl⟩ | ⟨g, off, cap, c, hv, hg, ho, hn, hm, hs, hc⟩
  · omega
  · exact ⟨g, off, cap, hv, hn, hm, (Array.getElem?_eq_some_iff.1 hg).1, ho, fun o => by simp [World.frozen?, hg], fun j u hj => by simp [World.cell?, hg, hc j u hj]⟩

/-- A store to one of its cells. -/
theorem Row.set {g off cap : Nat} (h : Row w ow p T sz (.slice (some ⟨g, off, none⟩) n cap) n cs) (j : Nat) (u : Value) : Row (w.setCell ⟨g, off + j, none⟩ u) ow p T sz (.slice (some ⟨g, off, none⟩) n cap) n (cs.set j u) := by
  refine ⟨by simpa using h.1, ?_⟩
  rcases h.2 with ⟨hv, _⟩ | ⟨g', off', cap', c, hv, hg, ho, hn, hm, hs, hc⟩
  · simp at hv
  · simp only [Value.slice.injEq, Option.some.injEq, Addr.mk.injEq, and_true, true_and] at hv
    obtain ⟨⟨rfl, rfl⟩, rfl⟩ := hv
    refine .inr ⟨g, off, cap, c.setIfInBounds (off + j) u, rfl, ?_, ho, hn, hm, by simpa using hs, fun i x hi => ?_⟩
    · simp only [World.setCell, Array.getElem?_modify, hg]; simp
    · by_cases e : i = j
      · subst e
        have hlt : i < cs.length := by
          have := (List.getElem?_eq_some_iff.1 hi).1
          simpa using this
        have hx : x = u := by simpa [hlt] using hi.symm
        subst hx
        have := hc i cs[i] (by simp [hlt])
        have hlt2 : off + i < c.size := (Array.getElem?_eq_some_iff.1 this).1
        simp [hlt2]
      · rw [List.getElem?_set_ne (Ne.symm e)] at hi
        rw [Array.getElem?_setIfInBounds_ne (by omega)]
        exact hc i x hi

theorem Row.turn {g off cap : Nat} (h : Row w ow p T sz (.slice (some ⟨g, off, none⟩) n cap) n cs) (i : Nat) (u : Value) : Turn p w ow (w.setCell ⟨g, i, none⟩ u) ow := by
  refine (Turn.refl p w ow).setCell u ?_
  rcases h.2 with ⟨hv, _⟩ | ⟨g', off', cap', c, hv, hg, ho, hn, hm, hs, hc⟩
  · simp at hv
  · simp only [Value.slice.injEq, Option.some.injEq, Addr.mk.injEq, and_true, true_and] at hv
    obtain ⟨⟨rfl, rfl⟩, rfl⟩ := hv
    rw [ho]; exact List.prefix_refl _

/-- A row's block is no other owner's. -/
theorem Row.ne {g off cap g' o' : Nat} {vs : List Value} (h : Row w ow p T sz (.slice (some ⟨g, off, none⟩) n cap) n cs) (h' : Cells w ow q g' o' vs) (hpq : p ≠ q) (hl : 0 < vs.length) : g' ≠ g := by
  rintro rfl
  rcases h.2 with ⟨hv, _⟩ | ⟨g1, off', cap', c, hv, hg, ho, hn, hm, hs, hc⟩
  · simp at hv
  · simp only [Value.slice.injEq, Option.some.injEq, Addr.mk.injEq, and_true, true_and] at hv
    obtain ⟨⟨rfl, rfl⟩, rfl⟩ := hv
    exact hpq ((ho _).symm.trans (h'.owner 0 hl))

/-- The first m elements; the room stays. -/
theorem Row.take {g off cap : Nat} (h : Row w ow p T sz (.slice (some ⟨g, off, none⟩) n cap) n cs) (m : Nat) (hm : m ≤ n) : Row w ow p T sz (.slice (some ⟨g, off, none⟩) m cap) m (cs.take (m * sz)) := by
  have hmul := Nat.mul_le_mul_right sz hm
  refine ⟨by rw [List.length_take, h.1]; omega, ?_⟩
  rcases h.2 with ⟨hv, _⟩ | ⟨g', off', cap', c, hv, hg, ho, hn, hm', hs, hc⟩
  · simp at hv
  · simp only [Value.slice.injEq, Option.some.injEq, Addr.mk.injEq, and_true, true_and] at hv
    obtain ⟨⟨rfl, rfl⟩, rfl⟩ := hv
    refine .inr ⟨g, off, cap, c, rfl, hg, ho, by omega, hm', hs, fun j u hj => hc j u ?_⟩
    rw [List.getElem?_take] at hj
    split at hj
    · exact hj
    · cases hj

/-- No room behind the elements. -/
theorem Row.clip {g off cap : Nat} (h : Row w ow p T sz (.slice (some ⟨g, off, none⟩) n cap) n cs) : Row w ow p T sz (.slice (some ⟨g, off, none⟩) n n) n cs := by
  refine ⟨h.1, ?_⟩
  rcases h.2 with ⟨hv, _⟩ | ⟨g', off', cap', c, hv, hg, ho, hn, hm', hs, hc⟩
  · simp at hv
  · simp only [Value.slice.injEq, Option.some.injEq, Addr.mk.injEq, and_true, true_and] at hv
    obtain ⟨⟨rfl, rfl⟩, rfl⟩ := hv
    exact .inr ⟨g, off, n, c, rfl, hg, ho, Nat.le_refl _, by omega, by have := Nat.mul_le_mul_right sz hn; omega, hc⟩

theorem Reads.slice (h : Reads w v n cs) : ∃ A c, v = .slice A n c ∧ n ≤ c := by
  rcases h with ⟨rfl, rfl, rfl⟩ | ⟨g, off, cap, hv, hn, hc⟩
  · exact ⟨_, _, rfl, Nat.le_refl _⟩
  · exact ⟨_, _, hv, hn⟩

theorem Reads.at (h : Reads w v n cs) (h0 : 0 < n) : ∃ g off cap, v = .slice (some ⟨g, off, none⟩) n cap ∧ n ≤ cap ∧ (∀ j u, cs[j]? = some u → w.cell? ⟨g, off + j, none⟩ = some u) := by
  rcases h with ⟨rfl, rfl, rfl⟩ | h
  · omega
  · exact h
end

/-- A make with room alone, or with zeros: a new block. -/
theorem Row.new (w : World) (ow : Ow) (q : List Nat) (T sz n cap : Nat) (c : Array Value) (cs : List Value) (hl : cs.length = n * sz) (hn : n ≤ cap) (hm : cap ≤ maxLen) (hs : cap * sz ≤ c.size) (hc : ∀ (j : Nat) (u : Value), cs[j]? = some u → c[j]? = some u) :
    Row (w.alloc (.cells c T)) (ow.set w.heap.size q) q T sz (.slice (some ⟨w.heap.size, 0, none⟩) n cap) n cs :=
  ⟨hl, .inr ⟨w.heap.size, 0, cap, c, rfl, heap_alloc_new _ _, fun _ => Ow.set_same _ _ _ _, hn, hm, by simpa using hs, fun j u hj => by simpa using hc j u hj⟩⟩

/-- New memory alone. -/
structure New (w : World) (ow : Ow) (w' : World) (ow' : Ow) : Prop where
  below : Below w.heap.size w w'
  own : ∀ b o, b < w.heap.size → ow' b o = ow b o

theorem New.refl (w : World) (ow : Ow) : New w ow w ow := ⟨Below.refl _ _, fun _ _ _ => rfl⟩
theorem New.turn {w w' : World} {ow ow' : Ow} (h : New w ow w' ow') (p : List Nat) : Turn p w ow w' ow' := Turn.of_below p ow h.below ow' h.own
theorem New.trans {w w1 w2 : World} {ow ow1 ow2 : Ow} (h : New w ow w1 ow1) (k : New w1 ow1 w2 ow2) : New w ow w2 ow2 :=
  ⟨h.below.trans (k.below.mono h.below.size), fun b o hb => (k.own b o (Nat.lt_of_lt_of_le hb h.below.size)).trans (h.own b o hb)⟩
theorem New.alloc {w w1 : World} {ow ow1 : Ow} (h : New w ow w1 ow1) (o : Obj) (q : List Nat) : New w ow (w1.alloc o) (ow1.set w1.heap.size q) :=
  h.trans ⟨(Below.refl _ _).alloc (Nat.le_refl _) _, fun _ _ hb => Ow.set_other _ _ _ _ (by omega)⟩
theorem New.drew {w w1 : World} {ow ow1 : Ow} (h : New w ow w1 ow1) : New w ow w1.drew ow1 := ⟨h.below.drew, h.own⟩
theorem New.drewN {w w1 : World} {ow ow1 : Ow} (h : New w ow w1 ow1) (n : Nat) : New w ow (w1.drewN n) ow1 := ⟨⟨h.below.os, h.below.tape, h.below.output, h.below.size, h.below.block⟩, h.own⟩
theorem Cells.new_ {p : List Nat} {w w1 : World} {ow ow1 : Ow} {g o : Nat} {vs : List Value} (h : Cells w ow p g o vs) (k : New w ow w1 ow1) : Cells w1 ow1 p g o vs := by
  have hlt := h.lt
  obtain ⟨c, e, hg, hc⟩ := h
  exact ⟨c, e, (k.below.block g hlt).trans hg, fun j u hj => ⟨(hc j u hj).1, (k.own _ _ hlt).trans (hc j u hj).2⟩⟩
theorem Row.new_ {p : List Nat} {w w1 : World} {ow ow1 : Ow} {T sz n : Nat} {v : Value} {cs : List Value} (h : Row w ow p T sz v n cs) (k : New w ow w1 ow1) : Row w1 ow1 p T sz v n cs := by
  refine ⟨h.1, ?_⟩
  rcases h.2 with h | ⟨g, off, cap, c, hv, hg, ho, r⟩
  · exact .inl h
  · have hlt : g < w.heap.size := (Array.getElem?_eq_some_iff.1 hg).1
    exact .inr ⟨g, off, cap, c, hv, (k.below.block g hlt).trans hg, fun o => (k.own g o hlt).trans (ho o), r⟩
theorem Reads.new_ {w w1 : World} {n : Nat} {v : Value} {cs : List Value} (h : Reads w v n cs) (k : Below w.heap.size w w1) : Reads w1 v n cs := by
  rcases h with h | ⟨g, off, cap, hv, hn, hc⟩
  · exact .inl h
  · exact .inr ⟨g, off, cap, hv, hn, fun j u hj => (k.cell (World.block_lt_of_cell? w _ (hc j u hj))).trans (hc j u hj)⟩

theorem Keep1.all {keep : Nat → Prop} {a b : Option Obj} (h : Keep1 keep a b) (hk : ∀ i, keep i) : b = a := by
  unfold Keep1 at h
  split at h
  · obtain ⟨c', rfl, hs, hi⟩ := h
    rename_i c e f
    have : c' = c := Array.ext_getElem? fun i => hi i (hk i)
    rw [this]
  · exact h (hk 0)

/-- All that was there is nobody's but 0's. -/
def ow0 : Ow := fun _ _ => [0]
/-- Owners of what is new, from B on, told under q; the old ones as they were. -/
def Ow.ren (ow : Ow) (B : Nat) (ow' : Ow) (q : List Nat) : Ow := fun b o => if b < B then ow b o else q ++ (ow' b o).drop 1

theorem Turn.new_ {w w' : World} {ow' : Ow} (h : Turn [1] w ow0 w' ow') (ow : Ow) (q : List Nat) : New w ow w' (ow.ren w.heap.size ow' q) :=
  ⟨⟨h.os, h.tape, h.output, h.size, fun k hk => (h.blk k hk).all fun _ => by simp [ow0]⟩, fun b o hb => by simp [Ow.ren, hb]⟩

theorem Row.ren {w w' : World} {ow' : Ow} {s : List Nat} {T sz n : Nat} {v : Value} {cs : List Value} (h : Row w' ow' (1 :: s) T sz v n cs) (ht : Turn [1] w ow0 w' ow') (ow : Ow) (q : List Nat) : Row w' (ow.ren w.heap.size ow' q) (q ++ s) T sz v n cs := by
  refine ⟨h.1, ?_⟩
  rcases h.2 with h | ⟨g, off, cap, c, hv, hg, ho, r⟩
  · exact .inl h
  · refine .inr ⟨g, off, cap, c, hv, hg, fun o => ?_, r⟩
    have hge : ¬ g < w.heap.size := fun hlt => by have := (ht.own g o hlt).symm.trans (ho o); simp [ow0] at this
    simp [Ow.ren, hge, ho]

theorem Cells.ren {w w' : World} {ow' : Ow} {s : List Nat} {g o : Nat} {vs : List Value} (h : Cells w' ow' (1 :: s) g o vs) (ht : Turn [1] w ow0 w' ow') (ow : Ow) (q : List Nat) : Cells w' (ow.ren w.heap.size ow' q) (q ++ s) g o vs := by
  obtain ⟨c, e, hg, hc⟩ := h
  refine ⟨c, e, hg, fun j u hj => ⟨(hc j u hj).1, ?_⟩⟩
  have ho := (hc j u hj).2
  have hge : ¬ g < w.heap.size := fun hlt => by have := (ht.own g (o + j) hlt).symm.trans ho; simp [ow0] at this
  simp [Ow.ren, hge, ho]

theorem Row.alloc {w : World} {ow : Ow} {p : List Nat} {T sz n : Nat} {v : Value} {cs : List Value} (h : Row w ow p T sz v n cs) (ob : Obj) (q : List Nat) : Row (w.alloc ob) (ow.set w.heap.size q) p T sz v n cs := h.new_ ((New.refl _ _).alloc ob q)
theorem Row.drew {w : World} {ow : Ow} {p : List Nat} {T sz n : Nat} {v : Value} {cs : List Value} (h : Row w ow p T sz v n cs) : Row w.drew ow p T sz v n cs := h
theorem Row.drewN {w : World} {ow : Ow} {p : List Nat} {T sz n : Nat} {v : Value} {cs : List Value} (h : Row w ow p T sz v n cs) (k : Nat) : Row (w.drewN k) ow p T sz v n cs := h
/-- A new block of cells, read as a slice. -/
theorem Reads.new (w : World) (cs : List Value) (e : TypeId) (n c : Nat) (hn : n ≤ c) : Reads (w.alloc (.cells cs.toArray e)) (.slice (some ⟨w.heap.size, 0, none⟩) n c) n cs :=
  .inr ⟨w.heap.size, 0, c, rfl, hn, fun j u hj => by
    rw [cell_of_row _ w.heap.size (0 + j) cs.toArray e (0, 0) (heap_alloc_new w _)]
    simpa using hj⟩

theorem Reads.drew {w : World} {n : Nat} {v : Value} {cs : List Value} (h : Reads w v n cs) : Reads w.drew v n cs := h
theorem Reads.drewN {w : World} {n : Nat} {v : Value} {cs : List Value} (h : Reads w v n cs) (k : Nat) : Reads (w.drewN k) v n cs := h

theorem Cells.under {w : World} {ow : Ow} {p : List Nat} {g o : Nat} {vs : List Value} (h : Cells w ow p g o vs) (j : Nat) (hj : j < vs.length) {q : List Nat} (hq : q <+: p) : q <+: ow g (o + j) := by rw [h.owner j hj]; exact hq
theorem Cells.under0 {w : World} {ow : Ow} {p : List Nat} {g o : Nat} {u : Value} {us : List Value} (h : Cells w ow p g o (u :: us)) {q : List Nat} (hq : q <+: p) : q <+: ow g o := h.under 0 (by simp) hq

theorem _root_.Go.RowKit.Below.nw {w w1 : World} (h : Below w.heap.size w w1) (ow : Ow) : New w ow w1 ow := ⟨h, fun _ _ _ => rfl⟩

theorem New.of_below {w w1 : World} (h : Below w.heap.size w w1) (ow : Ow) : New w ow w1 ow := h.nw ow
theorem bdN {B : Nat} {a w : World} (h : Below B a w) (n : Nat) : Below B a (w.drewN n) := h.trans ⟨rfl, rfl, rfl, Nat.le_refl _, fun _ _ => rfl⟩

theorem bdS {B : Nat} {a w : World} {p : Addr} (hp : B ≤ p.block) (h : Below B a w) (u : Value) : Below B a (w.setCell p u) := h.setCell hp u
theorem bdA {B : Nat} {a w : World} (hB : B ≤ w.heap.size) (h : Below B a w) (o : Obj) : Below B a (w.alloc o) := h.alloc hB o

/-- The world gets a name; what is known of it is told. -/
theorem gen_world {P : Program} {c : Code} {Q : Exit → Act → World → Prop} {a : Act} {W : World} (Φ : World → Prop) (hΦ : Φ W) (h : ∀ w', Φ w' → Code.wp P c Q a w') : Code.wp P c Q a W := h W hΦ

section
variable {p q : List Nat} {w : World} {ow : Ow} {g o T sz n : Nat} {vs cs : List Value} {v : Value}
theorem Cells.alloc_ (h : Cells w ow p g o vs) (ob : Obj) : Cells (w.alloc ob) ow p g o vs := h.new_ (((Below.refl _ _).alloc (Nat.le_refl _) _).nw ow)
theorem Row.alloc_ (h : Row w ow p T sz v n cs) (ob : Obj) : Row (w.alloc ob) ow p T sz v n cs := h.new_ (((Below.refl _ _).alloc (Nat.le_refl _) _).nw ow)
theorem Cells.far {g' o' : Nat} (hg : g' ≠ g) (h : Cells w ow p g o vs) (u : Value) : Cells (w.setCell ⟨g', o', none⟩ u) ow p g o vs := by
  obtain ⟨c, e, hc, r⟩ := h
  exact ⟨c, e, (Below.heap_setCell _ _ _ _ (Ne.symm hg)).trans hc, r⟩
theorem Row.far {g' o' g off cap : Nat} (hg : g' ≠ g) (h : Row w ow p T sz (.slice (some ⟨g, off, none⟩) n cap) n cs) (u : Value) : Row (w.setCell ⟨g', o', none⟩ u) ow p T sz (.slice (some ⟨g, off, none⟩) n cap) n cs := by
  refine ⟨h.1, ?_⟩
  rcases h.2 with ⟨hv, _⟩ | ⟨g1, off1, cap1, c, hv, hg1, r⟩
  · simp at hv
  · simp only [Value.slice.injEq, Option.some.injEq, Addr.mk.injEq, and_true, true_and] at hv
    obtain ⟨⟨rfl, rfl⟩, rfl⟩ := hv
    exact .inr ⟨g, off, cap, c, rfl, (Below.heap_setCell _ _ _ _ (Ne.symm hg)).trans hg1, r⟩
theorem Turn.alloc_ {w1 : World} {ow1 : Ow} (h : Turn p w ow w1 ow1) (ob : Obj) : Turn p w ow (w1.alloc ob) ow1 := h.trans ((((Below.refl _ _).alloc (Nat.le_refl _) _).nw ow1).turn p)
/-- A store into what is new. -/
theorem Turn.setNew {w1 : World} {ow1 : Ow} {g o : Nat} (hg : w.heap.size ≤ g) (h : Turn p w ow w1 ow1) (u : Value) : Turn p w ow (w1.setCell ⟨g, o, none⟩ u) ow1 :=
  ⟨h.os, h.tape, h.output, by simpa [World.setCell] using h.size, h.own, fun b hb => by
    rw [Below.heap_setCell _ _ _ _ (show b ≠ g by omega)]
    exact h.blk b hb⟩
end
theorem Row.readsFrom {w : World} {ow : Ow} {p : List Nat} {T sz n b off cap : Nat} {cs : List Value} (h : Row w ow p T sz (.slice (some ⟨b, off, none⟩) n cap) n cs) (k : Nat) (hk : k ≤ n) :
    Reads w (.slice (if cap = k then some ⟨b, off, none⟩ else some ⟨b, off + k * sz, none⟩) (n - k) (cap - k)) (n - k) (cs.drop (k * sz)) := by
  rcases h.2 with ⟨hv, _⟩ | ⟨g1, off1, cap1, c, hv, hg1, ho, hn, hm, hs, hc⟩
  · simp at hv
  · simp only [Value.slice.injEq, Option.some.injEq, Addr.mk.injEq, and_true, true_and] at hv
    obtain ⟨⟨rfl, rfl⟩, rfl⟩ := hv
    by_cases hcap : cap = k
    · have : cs.drop (k * sz) = [] := List.drop_eq_nil_of_le (by rw [h.1]; exact Nat.mul_le_mul_right _ (by omega))
      rw [if_pos hcap, this]
      exact .inr ⟨b, off, cap - k, rfl, by omega, fun j u hj => by simp at hj⟩
    · rw [if_neg hcap]
      refine .inr ⟨b, off + k * sz, cap - k, rfl, by omega, fun j u hj => ?_⟩
      rw [List.getElem?_drop] at hj
      have := hc _ u hj
      rw [Nat.add_assoc]
      simp [World.cell?, hg1, this]

theorem set_behind {α : Type} (l m : List α) (i : Nat) (u : α) : (l ++ m).set (l.length + i) u = l ++ m.set i u := by
  rw [List.set_append_right _ _ (Nat.le_add_right _ _), Nat.add_sub_cancel_left]

theorem Turn.setO {p : List Nat} {w w1 : World} {ow ow1 : Ow} {g o : Nat} (hp : p <+: ow1 g o) (h : Turn p w ow w1 ow1) (u : Value) : Turn p w ow (w1.setCell ⟨g, o, none⟩ u) ow1 := h.setCell u hp

section
variable {p : List Nat} {w : World} {ow : Ow} {T sz n b off cap : Nat} {cs : List Value}
theorem Row.open_ (h : Row w ow p T sz (.slice (some ⟨b, off, none⟩) n cap) n cs) : b < w.heap.size ∧ (∀ o, ow b o = p) ∧ (∀ o, w.frozen? ⟨b, o, none⟩ = false) ∧ (∀ j u, cs[j]? = some u → w.cell? ⟨b, off + j, none⟩ = some u) := by
  rcases h.2 with ⟨hv, _⟩ | ⟨g1, off1, cap1, c, hv, hg1, ho, hn, hm, hs, hc⟩
  · simp at hv
  · simp only [Value.slice.injEq, Option.some.injEq, Addr.mk.injEq, and_true, true_and] at hv
    obtain ⟨⟨rfl, rfl⟩, rfl⟩ := hv
    exact ⟨(Array.getElem?_eq_some_iff.1 hg1).1, ho, fun o => by simp [World.frozen?, hg1], fun j u hj => by simp [World.cell?, hg1, hc j u hj]⟩
end

/-- A block of the call's own, known whole. -/
def Loc (w : World) (g : Nat) (cs : List Value) : Prop := ∃ e, w.heap[g]? = some (.cells cs.toArray e (0, 0))
section
variable {w w1 : World} {g : Nat} {cs : List Value}
theorem Loc.lt (h : Loc w g cs) : g < w.heap.size := by obtain ⟨e, h⟩ := h; exact (Array.getElem?_eq_some_iff.1 h).1
theorem Loc.get (h : Loc w g cs) (j : Nat) {u : Value} (hj : cs[j]? = some u) : w.cell? ⟨g, j, none⟩ = some u := by
  obtain ⟨e, h⟩ := h
  rw [cell_of_row w g j cs.toArray e (0, 0) h]; simpa using hj
theorem Loc.free (h : Loc w g cs) (j : Nat) : w.frozen? ⟨g, j, none⟩ = false := by obtain ⟨e, h⟩ := h; simp [World.frozen?, h]
theorem Loc.drew (h : Loc w g cs) : Loc w.drew g cs := h
theorem Loc.drewN (h : Loc w g cs) (n : Nat) : Loc (w.drewN n) g cs := h
theorem Loc.new_ (h : Loc w g cs) (hb : Below w.heap.size w w1) : Loc w1 g cs := by
  have := h.lt
  obtain ⟨e, h⟩ := h
  exact ⟨e, (hb.block g this).trans h⟩
theorem Loc.alloc_ (h : Loc w g cs) (ob : Obj) : Loc (w.alloc ob) g cs := h.new_ ((Below.refl _ _).alloc (Nat.le_refl _) _)
theorem Loc.far {g' o' : Nat} (hg : g' ≠ g) (h : Loc w g cs) (u : Value) : Loc (w.setCell ⟨g', o', none⟩ u) g cs := by
  obtain ⟨e, h⟩ := h
  exact ⟨e, (Below.heap_setCell _ _ _ _ (Ne.symm hg)).trans h⟩
theorem Loc.make {e : TypeId} {c : Array Value} (hg : g = w.heap.size) (hc : c = cs.toArray) : Loc (w.alloc (.cells c e)) g cs := by subst hg; subst hc; exact ⟨e, heap_alloc_new _ _⟩
theorem Loc.turn {q : List Nat} {ow ow1 : Ow} (h : Loc w g cs) (t : Turn q w ow w1 ow1) (hq : ∀ i, ¬ q <+: ow g i) : Loc w1 g cs := by
  have hk := t.blk g h.lt
  obtain ⟨e, h⟩ := h
  rw [h] at hk
  obtain ⟨c', he, hs, hi⟩ := hk
  have : c' = cs.toArray := Array.ext_getElem? fun i => hi i (hq i)
  exact ⟨e, this ▸ he⟩
end
/-- The slice's block, if it has one, is none of the old ones. -/
def Fresh (B : Nat) (v : Value) : Prop := ∀ k, v.ownBlock = some k → B ≤ k
theorem Row.fresh {w w' : World} {ow' : Ow} {s : List Nat} {T sz n : Nat} {v : Value} {cs : List Value} (h : Row w' ow' (1 :: s) T sz v n cs) (ht : Turn [1] w ow0 w' ow') : Fresh w.heap.size v := by
  intro k hk
  rcases h.2 with ⟨rfl, _⟩ | ⟨g, off, cap, c, rfl, hg, ho, r⟩
  · simp [Value.ownBlock] at hk
  · simp [Value.ownBlock] at hk
    subst hk
    rcases Nat.lt_or_ge g w.heap.size with hlt | hge
    · have := (ht.own g 0 hlt).symm.trans (ho 0)
      simp [ow0] at this
    · exact hge
theorem Fresh.mono {B B' : Nat} {v : Value} (h : Fresh B v) (hB : B' ≤ B) : Fresh B' v := fun k hk => Nat.le_trans hB (h k hk)
/-- A store into an older block. -/
theorem Row.farF {w : World} {ow : Ow} {p : List Nat} {T sz n B g' o' : Nat} {v : Value} {cs : List Value} (hf : Fresh B v) (hg : g' < B) (h : Row w ow p T sz v n cs) (u : Value) : Row (w.setCell ⟨g', o', none⟩ u) ow p T sz v n cs := by
  refine ⟨h.1, ?_⟩
  rcases h.2 with h | ⟨g, off, cap, c, rfl, hg1, r⟩
  · exact .inl h
  · have : B ≤ g := hf g rfl
    exact .inr ⟨g, off, cap, c, rfl, (Below.heap_setCell _ _ _ _ (show g ≠ g' by omega)).trans hg1, r⟩

/-- A new block's cells get owners, each its own. -/
def Ow.setF (ow : Ow) (g : Nat) (f : Nat → List Nat) : Ow := fun b o => if b = g then f o else ow b o
theorem New.allocF {w w1 : World} {ow ow1 : Ow} (h : New w ow w1 ow1) (ob : Obj) (f : Nat → List Nat) : New w ow (w1.alloc ob) (ow1.setF w1.heap.size f) :=
  h.trans ⟨(Below.refl _ _).alloc (Nat.le_refl _) _, fun b o hb => if_neg (show b ≠ w1.heap.size by omega)⟩
theorem Cells.newF (w : World) (ow : Ow) (f : Nat → List Nat) (c : Array Value) (e : TypeId) (o : Nat) (vs : List Value) (q : List Nat) (hv : ∀ (j : Nat) (u : Value), vs[j]? = some u → c[o + j]? = some u ∧ f (o + j) = q) :
    Cells (w.alloc (.cells c e)) (ow.setF w.heap.size f) q w.heap.size o vs :=
  ⟨c, e, heap_alloc_new _ _, fun j u hj => ⟨(hv j u hj).1, by simp [Ow.setF, (hv j u hj).2]⟩⟩

theorem npx {a x : List Nat} (h : ¬ a <+: x) (s : List Nat) : ¬ a ++ s <+: x := fun k => h (List.IsPrefix.trans (List.prefix_append a s) k)

end Go.Proofs.YtnehiooioodkfaaDoor
