/-
  SHELF.STACK of int: its functions' contracts.
-/
import Derived.Test.YtppikbdeopagkaaEIntQ
import Derived.Test.YtppikbdeopagkaaMore
set_option linter.unusedVariables false
set_option linter.unusedSimpArgs false
namespace Go.Proofs.Ytppikbdeopagkaa
open Go Go.RowKit
namespace EInt

/-- A stack: one cell, its list, the bottom first. -/
def St (w : World) (ow : Ow) (p : List Nat) (g o : Nat) (xs : List Int) : Prop :=
  ∃ v : Value, Cells w ow (p ++ [0]) g o [v] ∧ Row w ow (p ++ [1]) 3 1 v xs.length (css xs)
theorem St.keep {w w1 : World} {ow ow1 : Ow} {p q : List Nat} {g o : Nat} {xs : List Int} (h : St w ow p g o xs) (t : Turn q w ow w1 ow1) (h0 : ¬ q <+: p ++ [0]) (h1 : ¬ q <+: p ++ [1]) : St w1 ow1 p g o xs := by
  obtain ⟨v, hc, hr⟩ := h
  exact ⟨v, hc.keep t h0, hr.keep t h1⟩
theorem St.new_ {w w1 : World} {ow ow1 : Ow} {p : List Nat} {g o : Nat} {xs : List Int} (h : St w ow p g o xs) (t : New w ow w1 ow1) : St w1 ow1 p g o xs := by
  obtain ⟨v, hc, hr⟩ := h
  exact ⟨v, hc.new_ t, hr.new_ t⟩
theorem St.nil {w : World} {ow : Ow} {p : List Nat} {g o : Nat} (h : Cells w ow (p ++ [0]) g o [.slice none 0 0]) : St w ow p g o [] := ⟨_, h, Row.nil _ _ _ _ _⟩

set_option maxHeartbeats 400000 in
theorem s_len (w : World) (ow : Ow) (p : List Nat) (g o : Nat) (xs : List Int) (h : St w ow p g o xs) :
    Calls Try.prog 19 #[.pointer (some ⟨g, o, none⟩)] w fun e w' => e = .returned (.int .i64 (xs.length : Int)) ∧ ∃ k, w' = w.drewN k := by
  obtain ⟨v, hc, hr⟩ := h
  obtain ⟨A, c, rfl, hnc⟩ := hr.slice
  have c0 := hc.get0
  go_enter Try.func19, Try.ntmps19
  go_wp2
  go_ret
  exact ⟨rfl, 0, rfl⟩

/-- What a call that may turn the stack leaves. -/
def StL (w : World) (ow : Ow) (p : List Nat) (g o : Nat) (v : Value) (xs : List Int) (e : Ending) (w' : World) : Prop :=
  ∃ ow', e = .returned v ∧ St w' ow' p g o xs ∧ Turn p w ow w' ow'

set_option maxHeartbeats 400000 in
theorem s_push (w : World) (ow : Ow) (p : List Nat) (g o : Nat) (xs : List Int) (x : Int) (h : St w ow p g o xs) (hn : xs.length ≤ 1099511627776) :
    Calls Try.prog 15 #[.pointer (some ⟨g, o, none⟩), .int .i64 x] w (StL w ow p g o (.tuple #[]) (xs ++ [x])) := by
  obtain ⟨v, hc, hr⟩ := h
  obtain ⟨A, c, rfl, hnc⟩ := hr.slice
  go_enter Try.func15, Try.ntmps15
  have c0 := hc.get0
  have f0 := hc.free o
  have lg := hc.lt
  go_wp2_with (at_builtin; refine wpList_append_row rfl (.tmp 8) (.tmp 10) 22 22 rfl 3 _ 1 8 Try.underlying22 info rfl rfl (hr.alloc_ _) rfl ((Reads.new _ (cs x) _ 1 1 (Nat.le_refl _)).src Try.underlying22 rfl (cs_one x)) (by unfold maxLen; omega) (by omega) ?_)
  intro v' w' ow' hrow' ht'
  obtain ⟨A', c', rfl, hnc'⟩ := hrow'.slice
  have ht1 := ((Turn.refl (p ++ [1]) w ow).alloc_ (.cells (cs x).toArray 3)).trans ht'
  have hcc := hc.keep ht1 (by simp)
  have c2 := hcc.get0
  have f2 := hcc.free o
  have lg2 := hcc.lt
  go_wp2
  go_end0
  refine ⟨_, rfl, ⟨_, hcc.set0 _, ?_⟩, ?_⟩
  · rw [css_snoc, List.length_append]
    exact hrow'.keep (hcc.turn 0 _ (by simp)) (by simp)
  · exact (ht1.up (by simp)).setCell _ (hcc.under0 (by simp))

set_option maxHeartbeats 400000 in
theorem s_at_out (w : World) (ow : Ow) (p : List Nat) (g o : Nat) (xs : List Int) (h : St w ow p g o xs) (i : Int) (hi : i < 0 ∨ (xs.length : Int) ≤ i) :
    Calls Try.prog 18 #[.pointer (some ⟨g, o, none⟩), .int .i64 i] w fun e w' => e = .returned (.tuple #[.int .i64 0, .bool false]) ∧ Below w.heap.size w w' := by
  obtain ⟨v, hc, hr⟩ := h
  obtain ⟨A, c, rfl, hnc⟩ := hr.slice
  have c0 := hc.get0
  have lg := hc.lt
  go_enter Try.func18, Try.ntmps18
  by_cases h1 : i < 0
  · go_wp2
    (go_ret2; refine ⟨rfl, ?_⟩)
    repeat (first | (with_reducible assumption) | (with_reducible exact Below.refl _ _) | (with_reducible refine Below.drew ?_) | (with_reducible refine bdN ?_ _) | ((with_reducible refine bdS ?_ ?_ _); · first | (simp; done) | omega | (simp; omega)) | ((with_reducible refine bdA ?_ ?_ _); · first | (simp; done) | omega | (simp; omega)))
  · have h2 : (xs.length : Int) ≤ i := by omega
    go_wp2
    (go_ret2; refine ⟨rfl, ?_⟩)
    repeat (first | (with_reducible assumption) | (with_reducible exact Below.refl _ _) | (with_reducible refine Below.drew ?_) | (with_reducible refine bdN ?_ _) | ((with_reducible refine bdS ?_ ?_ _); · first | (simp; done) | omega | (simp; omega)) | ((with_reducible refine bdA ?_ ?_ _); · first | (simp; done) | omega | (simp; omega)))

set_option maxHeartbeats 400000 in
theorem s_at_in (w : World) (ow : Ow) (p : List Nat) (g o : Nat) (xs : List Int) (h : St w ow p g o xs) (k : Nat) (x : Int) (hx : xs[k]? = some x) :
    Calls Try.prog 18 #[.pointer (some ⟨g, o, none⟩), .int .i64 (k : Int)] w fun e w' => e = .returned (.tuple #[.int .i64 x, .bool true]) ∧ Below w.heap.size w w' := by
  obtain ⟨v, hc, hr⟩ := h
  have hlt : k < xs.length := (List.getElem?_eq_some_iff.1 hx).1
  obtain ⟨b, off, cap, rfl, hnc, hm, hb, ho, hf, hcell⟩ := hr.at (by omega)
  have e0 := hcell (k * 1 + 0) _ (css_at xs k x hx 0 _ rfl (by omega))
  simp only [Nat.add_zero, Nat.mul_one, ← Nat.add_assoc] at e0
  have c0 := hc.get0
  have lg := hc.lt
  have h1 : ¬ (k : Int) < 0 := by omega
  have h2 : ¬ (xs.length : Int) ≤ (k : Int) := by omega
  have i0 : (k : Int) < (xs.length : Int) := by omega
  clear hr hx hcell
  go_enter Try.func18, Try.ntmps18
  go_wp2
  (go_ret2; refine ⟨rfl, ?_⟩)
  repeat (first | (with_reducible assumption) | (with_reducible exact Below.refl _ _) | (with_reducible refine Below.drew ?_) | (with_reducible refine bdN ?_ _) | ((with_reducible refine bdS ?_ ?_ _); · first | (simp; done) | omega | (simp; omega)) | ((with_reducible refine bdA ?_ ?_ _); · first | (simp; done) | omega | (simp; omega)))

set_option maxHeartbeats 400000 in
theorem s_top_none (w : World) (ow : Ow) (p : List Nat) (g o : Nat) (h : St w ow p g o []) :
    Calls Try.prog 17 #[.pointer (some ⟨g, o, none⟩)] w fun e w' => e = .returned (.tuple #[.int .i64 0, .bool false]) ∧ Below w.heap.size w w' := by
  have hcall := fun W (hW : Below w.heap.size w W) => (s_at_out W ow p g o [] (h.new_ (hW.nw ow)) (-1) (by simp)).mono fun e w' ⟨he, hb⟩ => (⟨he, hb, hW.trans (hb.mono hW.size)⟩ : e = Ending.returned (.tuple #[.int .i64 0, .bool false]) ∧ Below W.heap.size W w' ∧ Below w.heap.size w w')
  have Hcall := Lib.hid hcall
  obtain ⟨v, hc, hr⟩ := h
  obtain ⟨A, c, rfl, hnc⟩ := hr.slice
  have c0 := hc.get0
  have lg := hc.lt
  simp only [List.length_nil] at c0
  clear hcall hr hc
  go_enter Try.func17, Try.ntmps17
  go_wp2_with fail
  refine (Hcall.out _ (by repeat (first | (with_reducible assumption) | (with_reducible exact Below.refl _ _) | (with_reducible refine Below.drew ?_) | (with_reducible refine bdN ?_ _) | ((with_reducible refine bdS ?_ ?_ _); · first | (simp; done) | omega | (simp; omega)) | ((with_reducible refine bdA ?_ ?_ _); · first | (simp; done) | omega | (simp; omega))))).mono ?_
  rintro e w2 ⟨rfl, hb2, hB2⟩
  go_wp2
  (go_ret2; refine ⟨rfl, ?_⟩)
  repeat (first | (with_reducible assumption) | (with_reducible exact Below.refl _ _) | (with_reducible refine Below.drew ?_) | (with_reducible refine bdN ?_ _) | ((with_reducible refine bdS ?_ ?_ _); · first | (simp; done) | omega | (simp; omega)) | ((with_reducible refine bdA ?_ ?_ _); · first | (simp; done) | omega | (simp; omega)))

set_option maxHeartbeats 400000 in
theorem s_top_some (w : World) (ow : Ow) (p : List Nat) (g o : Nat) (xs : List Int) (x : Int) (h : St w ow p g o (xs ++ [x])) (hn : xs.length ≤ 1099511627776) :
    Calls Try.prog 17 #[.pointer (some ⟨g, o, none⟩)] w fun e w' => e = .returned (.tuple #[.int .i64 x, .bool true]) ∧ Below w.heap.size w w' := by
  have hcall := fun W (hW : Below w.heap.size w W) => (s_at_in W ow p g o (xs ++ [x]) (h.new_ (hW.nw ow)) xs.length x (by simp)).mono fun e w' ⟨he, hb⟩ => (⟨he, hb, hW.trans (hb.mono hW.size)⟩ : e = Ending.returned (.tuple #[.int .i64 x, .bool true]) ∧ Below W.heap.size W w' ∧ Below w.heap.size w w')
  have Hcall := Lib.hid hcall
  obtain ⟨v, hc, hr⟩ := h
  obtain ⟨A, c, rfl, hnc⟩ := hr.slice
  have c0 := hc.get0
  have lg := hc.lt
  simp only [List.length_append, List.length_singleton] at c0
  clear hcall hr hc
  go_enter Try.func17, Try.ntmps17
  go_wp2_with fail
  refine (Hcall.out _ (by repeat (first | (with_reducible assumption) | (with_reducible exact Below.refl _ _) | (with_reducible refine Below.drew ?_) | (with_reducible refine bdN ?_ _) | ((with_reducible refine bdS ?_ ?_ _); · first | (simp; done) | omega | (simp; omega)) | ((with_reducible refine bdA ?_ ?_ _); · first | (simp; done) | omega | (simp; omega))))).mono ?_
  rintro e w2 ⟨rfl, hb2, hB2⟩
  go_wp2
  (go_ret2; refine ⟨rfl, ?_⟩)
  repeat (first | (with_reducible assumption) | (with_reducible exact Below.refl _ _) | (with_reducible refine Below.drew ?_) | (with_reducible refine bdN ?_ _) | ((with_reducible refine bdS ?_ ?_ _); · first | (simp; done) | omega | (simp; omega)) | ((with_reducible refine bdA ?_ ?_ _); · first | (simp; done) | omega | (simp; omega)))

set_option maxHeartbeats 400000 in
theorem s_pop_none (w : World) (ow : Ow) (p : List Nat) (g o : Nat) (h : St w ow p g o []) :
    Calls Try.prog 16 #[.pointer (some ⟨g, o, none⟩)] w fun e w' => e = .returned (.tuple #[.int .i64 0, .bool false]) ∧ Below w.heap.size w w' := by
  go_enter Try.func16, Try.ntmps16
  go_wp2_with fail
  refine (s_top_none _ ow p g o (h.new_ (by refine New.of_below ?_ _; repeat (first | (with_reducible assumption) | (with_reducible exact Below.refl _ _) | (with_reducible refine Below.drew ?_) | (with_reducible refine bdN ?_ _) | ((with_reducible refine bdS ?_ ?_ _); · first | (simp; done) | omega | (simp; omega)) | ((with_reducible refine bdA ?_ ?_ _); · first | (simp; done) | omega | (simp; omega)))))).mono ?_
  rintro e w1 ⟨rfl, hb⟩
  have hB : Below w.heap.size w w1 := hb
  go_wp2
  (go_ret2; refine ⟨rfl, ?_⟩)
  repeat (first | (with_reducible assumption) | (with_reducible exact Below.refl _ _) | (with_reducible refine Below.drew ?_) | (with_reducible refine bdN ?_ _) | ((with_reducible refine bdS ?_ ?_ _); · first | (simp; done) | omega | (simp; omega)) | ((with_reducible refine bdA ?_ ?_ _); · first | (simp; done) | omega | (simp; omega)))

set_option maxHeartbeats 1000000 in
theorem s_pop_some (w : World) (ow : Ow) (p : List Nat) (g o : Nat) (xs : List Int) (x : Int) (h : St w ow p g o (xs ++ [x])) (hn : xs.length ≤ 1099511627776) :
    Calls Try.prog 16 #[.pointer (some ⟨g, o, none⟩)] w (StL w ow p g o (.tuple #[.int .i64 x, .bool true]) xs) := by
  go_enter Try.func16, Try.ntmps16
  go_wp2_with fail
  refine (s_top_some _ ow p g o xs x (h.new_ (by refine New.of_below ?_ _; repeat (first | (with_reducible assumption) | (with_reducible exact Below.refl _ _) | (with_reducible refine Below.drew ?_) | (with_reducible refine bdN ?_ _) | ((with_reducible refine bdS ?_ ?_ _); · first | (simp; done) | omega | (simp; omega)) | ((with_reducible refine bdA ?_ ?_ _); · first | (simp; done) | omega | (simp; omega))))) hn).mono ?_
  rintro e w1 ⟨rfl, hb⟩
  have hB : Below w.heap.size w w1 := hb
  obtain ⟨v, hc, hr⟩ := h
  have hlx : (xs ++ [x]).length = xs.length + 1 := by simp
  rw [hlx] at hr
  obtain ⟨b, off, cap, rfl, hnc, hm, hb0, -, -, -⟩ := hr.at (by omega)
  have lgw := hc.lt
  replace hc := hc.new_ (hB.nw ow)
  replace hr := hr.new_ (hB.nw ow)
  obtain ⟨hb1, ho, hf, hcell⟩ := hr.open_
  obtain ⟨y, hy⟩ : ∃ y, (xs ++ [x])[xs.length]? = some y := ⟨x, by simp⟩
  have e0 := hcell (xs.length * 1 + 0) _ (css_at (xs ++ [x]) xs.length y hy 0 _ rfl (by omega))
  simp only [Nat.add_zero, Nat.mul_one, ← Nat.add_assoc] at e0
  have c0 := hc.get0
  have fg := hc.free
  have lg := hc.lt
  have gb : ¬ g = b := hr.ne hc (by simp) (by simp)
  have gb' : ¬ b = g := fun e => gb e.symm
  have hwr : IntKind.i64.wrap ((xs.length : Int) + 1 - 1) = (xs.length : Int) := by rw [IntKind.wrap_i64]; omega
  have hwr' : IntKind.i64.wrap (xs.length : Int) = (xs.length : Int) := by rw [IntKind.wrap_i64]; omega
  have i0 : (xs.length : Int) < (xs.length : Int) + 1 := by omega
  have i1 : (xs.length : Int) ≤ (cap : Int) := by omega
  have hcz := css_cells (xs ++ [x]) xs.length (0 : Int)
  have hrA : Row ((w1.setCell ⟨b, off + xs.length, none⟩ (.int .i64 0))) ow (p ++ [1]) 3 1 (.slice (some ⟨b, off, none⟩) (xs.length + 1) cap) (xs.length + 1) (css ((xs ++ [x]).set xs.length (0 : Int))) := by
    rw [← hcz]
    have := (hr.set (xs.length * 1) (.int .i64 0))
    simpa using this
  have hrC := hrA.cut xs.length (by omega)
  rw [← css_take, show ((xs ++ [x]).set xs.length (0 : Int)).take xs.length = xs by rw [List.set_append_right _ _ (Nat.le_refl _), List.take_left]] at hrC
  have hcA : ∀ u, Cells (((w1.setCell ⟨b, off + xs.length, none⟩ (.int .i64 0))).setCell ⟨g, o, none⟩ u) ow (p ++ [0]) g o [u] := fun u => by
    have : Cells ((w1.setCell ⟨b, off + xs.length, none⟩ (.int .i64 0))) ow (p ++ [0]) g o [.slice (some ⟨b, off, none⟩) (xs.length + 1) cap] := by
      repeat (first | (with_reducible exact hc) | (with_reducible refine Cells.drew ?_) | (with_reducible refine Cells.drewN ?_ _) | (with_reducible refine Cells.alloc_ ?_ _) | ((with_reducible refine Cells.far ?_ ?_ _); · first | assumption | omega | (simp; done) | (simp; omega)))
    exact this.set0 u
  have og0 : p <+: ow g o := hc.under0 (by simp)
  have ob : ∀ i, p <+: ow b i := fun i => by rw [ho]; simp
  have HrC := Lib.hid hrC
  have HcA := Lib.hid hcA
  have Hob := Lib.hid ob
  clear hrA hrC hcA ob hcz hn hcell ho hr hc hm hlx hy
  go_wp2
  go_region
  all_goals go_wp2
  go_region
  all_goals
    go_wp2
    (go_ret2; refine ⟨ow, rfl, ⟨.slice (some ⟨b, off, none⟩) xs.length cap, ?_, ?_⟩, ?_⟩)
    · repeat (first | (with_reducible exact HcA.out _) | (with_reducible refine Cells.drew ?_) | (with_reducible refine Cells.drewN ?_ _) | (with_reducible refine Cells.alloc_ ?_ _) | ((with_reducible refine Cells.far ?_ ?_ _); · first | assumption | omega | (simp; done) | (simp; omega)))
    · repeat (first | (with_reducible exact HrC.out) | (with_reducible refine Row.drew ?_) | (with_reducible refine Row.drewN ?_ _) | (with_reducible refine Row.alloc_ ?_ _) | ((with_reducible refine Row.far ?_ ?_ _); · first | assumption | omega | (simp; done) | (simp; omega)))
    · have ob := Hob.out
      repeat (first | (with_reducible exact ((hB.nw ow).turn p)) | (with_reducible exact Turn.refl _ _ _) | (with_reducible refine Turn.drew ?_) | (with_reducible refine Turn.drewN ?_ _) | (with_reducible refine Turn.alloc_ ?_ _) | ((with_reducible refine Turn.setNew ?_ ?_ _); · first | (simp; done) | omega | (simp; omega)) | ((with_reducible refine Turn.setO ?_ ?_ _); · first | assumption | exact ob _ | (simp [*]; done)))

set_option maxHeartbeats 400000 in
theorem s_list (w : World) (ow : Ow) (p q : List Nat) (g o : Nat) (xs : List Int) (h : St w ow p g o xs) (hn : xs.length ≤ 1099511627776) :
    Calls Try.prog 44 #[.pointer (some ⟨g, o, none⟩)] w fun e w' => ∃ v' ow', e = .returned v' ∧ Row w' ow' q 3 1 v' xs.length (css xs) ∧ New w ow w' ow' ∧ Fresh w.heap.size v' := by
  obtain ⟨v, hc, hr⟩ := h
  obtain ⟨A, c, rfl, hnc⟩ := hr.slice
  have c0 := hc.get0
  have hcall := copied w ow q _ _ xs hr.reads rfl hn
  have Hcall := Lib.hid hcall
  clear hcall hr hc
  go_enter Try.func44, Try.ntmps44
  go_wp2_with fail
  refine Hcall.out.mono ?_
  rintro e w4 ⟨v4, ow4, rfl, hrow4, hnew4, hfr4⟩
  go_wp2
  go_ret
  exact ⟨_, _, rfl, hrow4, hnew4, hfr4⟩

end EInt
end Go.Proofs.Ytppikbdeopagkaa
