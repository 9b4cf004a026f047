/-
  SHELF.STACK of api.Lock: its functions' contracts.
-/
import Derived.Test.YtefagdbdimpcdaaELkC
import Derived.Test.YtefagdbdimpcdaaMore
set_option linter.unusedVariables false
set_option linter.unusedSimpArgs false
namespace Go.Proofs.Ytefagdbdimpcdaa
open Go Go.RowKit
namespace ELk

/-- A stack: one cell, its list, the bottom first. -/
def St (w : World) (ow : Ow) (p : List Nat) (g o : Nat) (xs : List Lk) : Prop :=
  ∃ v : Value, Cells w ow (p ++ [0]) g o [v] ∧ Row w ow (p ++ [1]) 51 2 v xs.length (css xs)
theorem St.keep {w w1 : World} {ow ow1 : Ow} {p q : List Nat} {g o : Nat} {xs : List Lk} (h : St w ow p g o xs) (t : Turn q w ow w1 ow1) (h0 : ¬ q <+: p ++ [0]) (h1 : ¬ q <+: p ++ [1]) : St w1 ow1 p g o xs := by
  obtain ⟨v, hc, hr⟩ := h
  exact ⟨v, hc.keep t h0, hr.keep t h1⟩
theorem St.new_ {w w1 : World} {ow ow1 : Ow} {p : List Nat} {g o : Nat} {xs : List Lk} (h : St w ow p g o xs) (t : New w ow w1 ow1) : St w1 ow1 p g o xs := by
  obtain ⟨v, hc, hr⟩ := h
  exact ⟨v, hc.new_ t, hr.new_ t⟩
theorem St.nil {w : World} {ow : Ow} {p : List Nat} {g o : Nat} (h : Cells w ow (p ++ [0]) g o [.slice none 0 0]) : St w ow p g o [] := ⟨_, h, Row.nil _ _ _ _ _⟩

set_option maxHeartbeats 400000 in
theorem s_len (w : World) (ow : Ow) (p : List Nat) (g o : Nat) (xs : List Lk) (h : St w ow p g o xs) :
    Calls Try.prog 57 #[.pointer (some ⟨g, o, none⟩)] w fun e w' => e = .returned (.int .i64 (xs.length : Int)) ∧ ∃ k, w' = w.drewN k := by
  obtain ⟨v, hc, hr⟩ := h
  obtain ⟨A, c, rfl, hnc⟩ := hr.slice
  have c0 := hc.get0
  go_enter Try.func57, Try.ntmps57
  go_wp2
  go_ret
  exact ⟨rfl, 0, rfl⟩

/-- What a call that may turn the stack leaves. -/
def StL (w : World) (ow : Ow) (p : List Nat) (g o : Nat) (v : Value) (xs : List Lk) (e : Ending) (w' : World) : Prop :=
  ∃ ow', e = .returned v ∧ St w' ow' p g o xs ∧ Turn p w ow w' ow'

set_option maxHeartbeats 400000 in
theorem s_push (w : World) (ow : Ow) (p : List Nat) (g o : Nat) (xs : List Lk) (x : Lk) (h : St w ow p g o xs) (hn : xs.length ≤ 1099511627776) :
    Calls Try.prog 51 #[.pointer (some ⟨g, o, none⟩), .agg #[.int .i64 x.res, .int .i64 x.n]] w (StL w ow p g o (.tuple #[]) (xs ++ [x])) := by
  obtain ⟨v, hc, hr⟩ := h
  obtain ⟨A, c, rfl, hnc⟩ := hr.slice
  go_enter Try.func51, Try.ntmps51
  go_wp2
  have hc1 := hc.alloc (.cells (cs x).toArray 51) (p ++ [2])
  have hr1 := hr.alloc (.cells (cs x).toArray 51) (p ++ [2])
  have hx1 := Cells.new w ow (p ++ [2]) (cs x) 51
  have t1 := (Turn.refl (p ++ [2]) w ow).alloc (.cells (cs x).toArray 51) (p ++ [2])
  have d0 := hx1.get 0 rfl
  have d1 := hx1.get 1 rfl
  have c0 := hc1.get0
  have f0 := hc1.free o
  have lg := hc1.lt
  simp only [cs, Nat.zero_add] at d0 d1 hc1 hr1 t1 c0 f0 lg
  generalize hW : w.alloc (.cells #[Value.int .i64 x.res, Value.int .i64 x.n] 51) = w1 at *
  generalize hO : ow.set w.heap.size (p ++ [2]) = ow1 at *
  generalize hB : w.heap.size = B at *
  go_region_law (refine step_append_row rfl (.tmp 8) (.tmp 10) 48 48 rfl 51 _ 2 16 Try.underlying48 info rfl rfl (hr1.alloc _ (p ++ [3])).drew rfl ((Reads.new _ (cs x) _ 1 1 (Nat.le_refl _)).drew.src Try.underlying48 rfl (cs_one x)) (by unfold maxLen; omega) (by omega) ?_; intro v' w' ow' hrow' ht'; obtain ⟨A', c', rfl, hnc'⟩ := hrow'.slice; have hcc := (hc1.alloc (.cells #[Value.int .i64 x.res, Value.int .i64 x.n] 51) (p ++ [3])).drew.keep ht' (by simp); have c2 := hcc.get0; have f2 := hcc.free o)
  all_goals
    go_wp2
    go_end0
    refine ⟨_, rfl, ⟨_, hcc.set0 _, ?_⟩, ?_⟩
    · rw [css_snoc, List.length_append]
      exact hrow'.keep (hcc.turn 0 _ (by simp)) (by simp)
    · exact (((t1.up (by simp)).alloc _ _).drew.trans (ht'.up (by simp))).setCell _ (hcc.under0 (by simp))

set_option maxHeartbeats 400000 in
theorem s_at_out (w : World) (ow : Ow) (p : List Nat) (g o : Nat) (xs : List Lk) (h : St w ow p g o xs) (i : Int) (hi : i < 0 ∨ (xs.length : Int) ≤ i) :
    Calls Try.prog 79 #[.pointer (some ⟨g, o, none⟩), .int .i64 i] w fun e w' => e = .returned (.tuple #[.agg #[.int .i64 0, .int .i64 0], .bool false]) ∧ Below w.heap.size w w' := by
  obtain ⟨v, hc, hr⟩ := h
  obtain ⟨A, c, rfl, hnc⟩ := hr.slice
  have c0 := hc.get0
  have lg := hc.lt
  go_enter Try.func79, Try.ntmps79
  by_cases h1 : i < 0
  · go_wp2
    refine bodyPost_ret (v := .tuple #[.agg #[.int .i64 0, .int .i64 0], .bool false]) (by simp [results, Try.results79, go_sem]) rfl ⟨rfl, ?_⟩
    repeat (first | (with_reducible assumption) | (with_reducible exact Below.refl _ _) | (with_reducible refine Below.drew ?_) | (with_reducible refine bdN ?_ _) | ((with_reducible refine bdS ?_ ?_ _); · first | (simp; done) | omega | (simp; omega)) | ((with_reducible refine bdA ?_ ?_ _); · first | (simp; done) | omega | (simp; omega)))
  · have h2 : (xs.length : Int) ≤ i := by omega
    go_wp2
    refine bodyPost_ret (v := .tuple #[.agg #[.int .i64 0, .int .i64 0], .bool false]) (by simp [results, Try.results79, go_sem]) rfl ⟨rfl, ?_⟩
    repeat (first | (with_reducible assumption) | (with_reducible exact Below.refl _ _) | (with_reducible refine Below.drew ?_) | (with_reducible refine bdN ?_ _) | ((with_reducible refine bdS ?_ ?_ _); · first | (simp; done) | omega | (simp; omega)) | ((with_reducible refine bdA ?_ ?_ _); · first | (simp; done) | omega | (simp; omega)))

set_option maxHeartbeats 400000 in
theorem s_at_in (w : World) (ow : Ow) (p : List Nat) (g o : Nat) (xs : List Lk) (h : St w ow p g o xs) (k : Nat) (x : Lk) (hx : xs[k]? = some x) :
    Calls Try.prog 79 #[.pointer (some ⟨g, o, none⟩), .int .i64 (k : Int)] w fun e w' => e = .returned (.tuple #[.agg #[.int .i64 x.res, .int .i64 x.n], .bool true]) ∧ Below w.heap.size w w' := by
  obtain ⟨v, hc, hr⟩ := h
  have hlt : k < xs.length := (List.getElem?_eq_some_iff.1 hx).1
  obtain ⟨b, off, cap, rfl, hnc, hm, hb, ho, hf, hcell⟩ := hr.at (by omega)
  have e0 := hcell (k * 2 + 0) _ (css_at xs k x hx 0 _ rfl (by omega))
  have e1 := hcell (k * 2 + 1) _ (css_at xs k x hx 1 _ rfl (by omega))
  simp only [Nat.add_zero, Nat.mul_one, ← Nat.add_assoc] at e0 e1
  have c0 := hc.get0
  have lg := hc.lt
  have h1 : ¬ (k : Int) < 0 := by omega
  have h2 : ¬ (xs.length : Int) ≤ (k : Int) := by omega
  have i0 : (k : Int) < (xs.length : Int) := by omega
  clear hr hx hcell
  go_enter Try.func79, Try.ntmps79
  go_wp2
  refine bodyPost_ret (v := .tuple #[.agg #[.int .i64 x.res, .int .i64 x.n], .bool true]) (by simp [results, Try.results79, go_sem]) rfl ⟨rfl, ?_⟩
  repeat (first | (with_reducible assumption) | (with_reducible exact Below.refl _ _) | (with_reducible refine Below.drew ?_) | (with_reducible refine bdN ?_ _) | ((with_reducible refine bdS ?_ ?_ _); · first | (simp; done) | omega | (simp; omega)) | ((with_reducible refine bdA ?_ ?_ _); · first | (simp; done) | omega | (simp; omega)))

set_option maxHeartbeats 400000 in
theorem s_top_none (w : World) (ow : Ow) (p : List Nat) (g o : Nat) (h : St w ow p g o []) :
    Calls Try.prog 54 #[.pointer (some ⟨g, o, none⟩)] w fun e w' => e = .returned (.tuple #[.agg #[.int .i64 0, .int .i64 0], .bool false]) ∧ Below w.heap.size w w' := by
  have hcall := fun W (hW : Below w.heap.size w W) => (s_at_out W ow p g o [] (h.new_ (hW.nw ow)) (-1) (by simp)).mono fun e w' ⟨he, hb⟩ => (⟨he, hb, hW.trans (hb.mono hW.size)⟩ : e = Ending.returned (.tuple #[.agg #[.int .i64 0, .int .i64 0], .bool false]) ∧ Below W.heap.size W w' ∧ Below w.heap.size w w')
  have Hcall := Lib.hid hcall
  obtain ⟨v, hc, hr⟩ := h
  obtain ⟨A, c, rfl, hnc⟩ := hr.slice
  have c0 := hc.get0
  have lg := hc.lt
  simp only [List.length_nil] at c0
  clear hcall hr hc
  go_enter Try.func54, Try.ntmps54
  go_wp2_with fail
  refine (Hcall.out _ (by repeat (first | (with_reducible assumption) | (with_reducible exact Below.refl _ _) | (with_reducible refine Below.drew ?_) | (with_reducible refine bdN ?_ _) | ((with_reducible refine bdS ?_ ?_ _); · first | (simp; done) | omega | (simp; omega)) | ((with_reducible refine bdA ?_ ?_ _); · first | (simp; done) | omega | (simp; omega))))).mono ?_
  rintro e w2 ⟨rfl, hb2, hB2⟩
  have hR : Loc w2 w.heap.size [.int .i64 0, .int .i64 0] := Loc.new_ (by repeat (first | (with_reducible refine Loc.drew ?_) | (with_reducible refine Loc.drewN ?_ _) | ((with_reducible refine Loc.far ?_ ?_ _); · first | assumption | omega | (simp; done) | (simp; omega)) | (exact Loc.make (by first | rfl | (simp; done) | (simp; omega)) rfl) | (with_reducible refine Loc.alloc_ ?_ _))) hb2
  have z0 := hR.get 0 rfl
  have z1 := hR.get 1 rfl
  have fR := hR.free
  have lR := hR.lt
  go_wp2
  refine bodyPost_ret (v := .tuple #[.agg #[.int .i64 0, .int .i64 0], .bool false]) (by simp [results, Try.results54, go_sem, lR, z0, z1]) rfl ⟨rfl, ?_⟩
  repeat (first | (with_reducible assumption) | (with_reducible exact Below.refl _ _) | (with_reducible refine Below.drew ?_) | (with_reducible refine bdN ?_ _) | ((with_reducible refine bdS ?_ ?_ _); · first | (simp; done) | omega | (simp; omega)) | ((with_reducible refine bdA ?_ ?_ _); · first | (simp; done) | omega | (simp; omega)))

set_option maxHeartbeats 400000 in
theorem s_top_some (w : World) (ow : Ow) (p : List Nat) (g o : Nat) (xs : List Lk) (x : Lk) (h : St w ow p g o (xs ++ [x])) (hn : xs.length ≤ 1099511627776) :
    Calls Try.prog 54 #[.pointer (some ⟨g, o, none⟩)] w fun e w' => e = .returned (.tuple #[.agg #[.int .i64 x.res, .int .i64 x.n], .bool true]) ∧ Below w.heap.size w w' := by
  have hcall := fun W (hW : Below w.heap.size w W) => (s_at_in W ow p g o (xs ++ [x]) (h.new_ (hW.nw ow)) xs.length x (by simp)).mono fun e w' ⟨he, hb⟩ => (⟨he, hb, hW.trans (hb.mono hW.size)⟩ : e = Ending.returned (.tuple #[.agg #[.int .i64 x.res, .int .i64 x.n], .bool true]) ∧ Below W.heap.size W w' ∧ Below w.heap.size w w')
  have Hcall := Lib.hid hcall
  obtain ⟨v, hc, hr⟩ := h
  obtain ⟨A, c, rfl, hnc⟩ := hr.slice
  have c0 := hc.get0
  have lg := hc.lt
  simp only [List.length_append, List.length_singleton] at c0
  clear hcall hr hc
  go_enter Try.func54, Try.ntmps54
  go_wp2_with fail
  refine (Hcall.out _ (by repeat (first | (with_reducible assumption) | (with_reducible exact Below.refl _ _) | (with_reducible refine Below.drew ?_) | (with_reducible refine bdN ?_ _) | ((with_reducible refine bdS ?_ ?_ _); · first | (simp; done) | omega | (simp; omega)) | ((with_reducible refine bdA ?_ ?_ _); · first | (simp; done) | omega | (simp; omega))))).mono ?_
  rintro e w2 ⟨rfl, hb2, hB2⟩
  have hR : Loc w2 w.heap.size [.int .i64 0, .int .i64 0] := Loc.new_ (by repeat (first | (with_reducible refine Loc.drew ?_) | (with_reducible refine Loc.drewN ?_ _) | ((with_reducible refine Loc.far ?_ ?_ _); · first | assumption | omega | (simp; done) | (simp; omega)) | (exact Loc.make (by first | rfl | (simp; done) | (simp; omega)) rfl) | (with_reducible refine Loc.alloc_ ?_ _))) hb2
  have z0 := hR.get 0 rfl
  have z1 := hR.get 1 rfl
  have fR := hR.free
  have lR := hR.lt
  go_wp2
  refine bodyPost_ret (v := .tuple #[.agg #[.int .i64 x.res, .int .i64 x.n], .bool true]) (by simp [results, Try.results54, go_sem, lR, z0, z1]) rfl ⟨rfl, ?_⟩
  repeat (first | (with_reducible assumption) | (with_reducible exact Below.refl _ _) | (with_reducible refine Below.drew ?_) | (with_reducible refine bdN ?_ _) | ((with_reducible refine bdS ?_ ?_ _); · first | (simp; done) | omega | (simp; omega)) | ((with_reducible refine bdA ?_ ?_ _); · first | (simp; done) | omega | (simp; omega)))

set_option maxHeartbeats 400000 in
theorem s_pop_none (w : World) (ow : Ow) (p : List Nat) (g o : Nat) (h : St w ow p g o []) :
    Calls Try.prog 80 #[.pointer (some ⟨g, o, none⟩)] w fun e w' => e = .returned (.tuple #[.agg #[.int .i64 0, .int .i64 0], .bool false]) ∧ Below w.heap.size w w' := by
  go_enter Try.func80, Try.ntmps80
  go_wp2_with fail
  refine (s_top_none _ ow p g o (h.new_ (by refine New.of_below ?_ _; repeat (first | (with_reducible assumption) | (with_reducible exact Below.refl _ _) | (with_reducible refine Below.drew ?_) | (with_reducible refine bdN ?_ _) | ((with_reducible refine bdS ?_ ?_ _); · first | (simp; done) | omega | (simp; omega)) | ((with_reducible refine bdA ?_ ?_ _); · first | (simp; done) | omega | (simp; omega)))))).mono ?_
  rintro e w1 ⟨rfl, hb⟩
  have r0 := (Cells.new w ow [9] [.int .i64 0, .int .i64 0] 51).new_ (hb.nw _)
  have lz := hb.size
  have hB : Below w.heap.size w w1 := ((Below.refl _ _).alloc (Nat.le_refl _) _).trans (hb.mono (by simp))
  have z0 := r0.get 0 rfl
  have z1 := r0.get 1 rfl
  have f0 := r0.free
  have lr := r0.lt
  simp only [Nat.zero_add] at z0 z1
  simp only [World.size_alloc] at lz
  go_wp2
  refine bodyPost_ret (v := .tuple #[.agg #[.int .i64 0, .int .i64 0], .bool false]) (by simp [results, Try.results80, go_sem, lr, z0, z1]) rfl ⟨rfl, ?_⟩
  repeat (first | (with_reducible assumption) | (with_reducible exact Below.refl _ _) | (with_reducible refine Below.drew ?_) | (with_reducible refine bdN ?_ _) | ((with_reducible refine bdS ?_ ?_ _); · first | (simp; done) | omega | (simp; omega)) | ((with_reducible refine bdA ?_ ?_ _); · first | (simp; done) | omega | (simp; omega)))

set_option maxHeartbeats 1000000 in
theorem s_pop_some (w : World) (ow : Ow) (p : List Nat) (g o : Nat) (xs : List Lk) (x : Lk) (h : St w ow p g o (xs ++ [x])) (hn : xs.length ≤ 1099511627776) :
    Calls Try.prog 80 #[.pointer (some ⟨g, o, none⟩)] w (StL w ow p g o (.tuple #[.agg #[.int .i64 x.res, .int .i64 x.n], .bool true]) xs) := by
  go_enter Try.func80, Try.ntmps80
  go_wp2_with fail
  refine (s_top_some _ ow p g o xs x (h.new_ (by refine New.of_below ?_ _; repeat (first | (with_reducible assumption) | (with_reducible exact Below.refl _ _) | (with_reducible refine Below.drew ?_) | (with_reducible refine bdN ?_ _) | ((with_reducible refine bdS ?_ ?_ _); · first | (simp; done) | omega | (simp; omega)) | ((with_reducible refine bdA ?_ ?_ _); · first | (simp; done) | omega | (simp; omega))))) hn).mono ?_
  rintro e w1 ⟨rfl, hb⟩
  have r0 := (Cells.new w ow [9] [.int .i64 0, .int .i64 0] 51).new_ (hb.nw _)
  have lz := hb.size
  have hB : Below w.heap.size w w1 := ((Below.refl _ _).alloc (Nat.le_refl _) _).trans (hb.mono (by simp))
  have z0 := r0.get 0 rfl
  have z1 := r0.get 1 rfl
  have f0 := r0.free
  have lr := r0.lt
  simp only [Nat.zero_add] at z0 z1
  simp only [World.size_alloc] at lz
  obtain ⟨v, hc, hr⟩ := h
  have hlx : (xs ++ [x]).length = xs.length + 1 := by simp
  rw [hlx] at hr
  obtain ⟨b, off, cap, rfl, hnc, hm, hb0, -, -, -⟩ := hr.at (by omega)
  have lgw := hc.lt
  replace hc := hc.new_ (hB.nw ow)
  replace hr := hr.new_ (hB.nw ow)
  obtain ⟨hb1, ho, hf, hcell⟩ := hr.open_
  obtain ⟨y, hy⟩ : ∃ y, (xs ++ [x])[xs.length]? = some y := ⟨x, by simp⟩
  have e0 := hcell (xs.length * 2 + 0) _ (css_at (xs ++ [x]) xs.length y hy 0 _ rfl (by omega))
  have e1 := hcell (xs.length * 2 + 1) _ (css_at (xs ++ [x]) xs.length y hy 1 _ rfl (by omega))
  simp only [Nat.add_zero, Nat.mul_one, ← Nat.add_assoc] at e0 e1
  have c0 := hc.get0
  have fg := hc.free
  have lg := hc.lt
  have gb : ¬ g = b := hr.ne hc (by simp) (by simp)
  have gb' : ¬ b = g := fun e => gb e.symm
  have hwr : IntKind.i64.wrap ((xs.length : Int) + 1 - 1) = (xs.length : Int) := by rw [IntKind.wrap_i64]; omega
  have hwr' : IntKind.i64.wrap (xs.length : Int) = (xs.length : Int) := by rw [IntKind.wrap_i64]; omega
  have i0 : (xs.length : Int) < (xs.length : Int) + 1 := by omega
  have i1 : (xs.length : Int) ≤ (cap : Int) := by omega
  have hcz := css_cells (xs ++ [x]) xs.length (⟨0, 0⟩ : Lk)
  have hrA : Row (((w1.setCell ⟨b, off + xs.length * 2, none⟩ (.int .i64 0)).setCell ⟨b, off + xs.length * 2 + 1, none⟩ (.int .i64 0))) ow (p ++ [1]) 51 2 (.slice (some ⟨b, off, none⟩) (xs.length + 1) cap) (xs.length + 1) (css ((xs ++ [x]).set xs.length (⟨0, 0⟩ : Lk))) := by
    rw [← hcz]
    have := ((hr.set (xs.length * 2) (.int .i64 0)).set (xs.length * 2 + 1) (.int .i64 0))
    simp only [← Nat.add_assoc] at this
    exact this
  have hrC := hrA.cut xs.length (by omega)
  rw [← css_take, show ((xs ++ [x]).set xs.length (⟨0, 0⟩ : Lk)).take xs.length = xs by rw [List.set_append_right _ _ (Nat.le_refl _), List.take_left]] at hrC
  have hcA : ∀ u, Cells ((((w1.setCell ⟨b, off + xs.length * 2, none⟩ (.int .i64 0)).setCell ⟨b, off + xs.length * 2 + 1, none⟩ (.int .i64 0))).setCell ⟨g, o, none⟩ u) ow (p ++ [0]) g o [u] := fun u => by
    have : Cells (((w1.setCell ⟨b, off + xs.length * 2, none⟩ (.int .i64 0)).setCell ⟨b, off + xs.length * 2 + 1, none⟩ (.int .i64 0))) ow (p ++ [0]) g o [.slice (some ⟨b, off, none⟩) (xs.length + 1) cap] := by
      repeat (first | (with_reducible exact hc) | (with_reducible refine Cells.drew ?_) | (with_reducible refine Cells.drewN ?_ _) | (with_reducible refine Cells.alloc_ ?_ _) | ((with_reducible refine Cells.far ?_ ?_ _); · first | assumption | omega | (simp; done) | (simp; omega)))
    exact this.set0 u
  have og0 : p <+: ow g o := hc.under0 (by simp)
  have ob : ∀ i, p <+: ow b i := fun i => by rw [ho]; simp
  have HrC := Lib.hid hrC
  have HcA := Lib.hid hcA
  have Hob := Lib.hid ob
  have rg : ¬ w.heap.size = g := by omega
  have rb : ¬ w.heap.size = b := by omega
  clear hrA hrC hcA ob hcz hn hcell ho hr hc hm hlx hy
  go_wp2
  go_region
  all_goals go_wp2
  go_region
  all_goals
    go_wp2
    refine bodyPost_ret (v := .tuple #[.agg #[.int .i64 x.res, .int .i64 x.n], .bool true]) (by simp [results, Try.results80, go_sem, lr, rg, rb, z0, z1]) rfl ⟨ow, rfl, ⟨.slice (some ⟨b, off, none⟩) xs.length cap, ?_, ?_⟩, ?_⟩
    · repeat (first | (with_reducible exact HcA.out _) | (with_reducible refine Cells.drew ?_) | (with_reducible refine Cells.drewN ?_ _) | (with_reducible refine Cells.alloc_ ?_ _) | ((with_reducible refine Cells.far ?_ ?_ _); · first | assumption | omega | (simp; done) | (simp; omega)))
    · repeat (first | (with_reducible exact HrC.out) | (with_reducible refine Row.drew ?_) | (with_reducible refine Row.drewN ?_ _) | (with_reducible refine Row.alloc_ ?_ _) | ((with_reducible refine Row.far ?_ ?_ _); · first | assumption | omega | (simp; done) | (simp; omega)))
    · have ob := Hob.out
      repeat (first | (with_reducible exact ((hB.nw ow).turn p)) | (with_reducible exact Turn.refl _ _ _) | (with_reducible refine Turn.drew ?_) | (with_reducible refine Turn.drewN ?_ _) | (with_reducible refine Turn.alloc_ ?_ _) | ((with_reducible refine Turn.setNew ?_ ?_ _); · first | (simp; done) | omega | (simp; omega)) | ((with_reducible refine Turn.setO ?_ ?_ _); · first | assumption | exact ob _ | (simp [*]; done)))

set_option maxHeartbeats 400000 in
theorem s_list (w : World) (ow : Ow) (p q : List Nat) (g o : Nat) (xs : List Lk) (h : St w ow p g o xs) (hn : xs.length ≤ 1099511627776) :
    Calls Try.prog 59 #[.pointer (some ⟨g, o, none⟩)] w fun e w' => ∃ v' ow', e = .returned v' ∧ Row w' ow' q 51 2 v' xs.length (css xs) ∧ New w ow w' ow' ∧ Fresh w.heap.size v' := by
  obtain ⟨v, hc, hr⟩ := h
  obtain ⟨A, c, rfl, hnc⟩ := hr.slice
  have c0 := hc.get0
  have hcall := copied w ow q _ _ xs hr.reads rfl hn
  have Hcall := Lib.hid hcall
  clear hcall hr hc
  go_enter Try.func59, Try.ntmps59
  go_wp2_with fail
  refine Hcall.out.mono ?_
  rintro e w4 ⟨v4, ow4, rfl, hrow4, hnew4, hfr4⟩
  go_wp2
  go_ret
  exact ⟨_, _, rfl, hrow4, hnew4, hfr4⟩

end ELk
end Go.Proofs.Ytefagdbdimpcdaa
