/-
  SHELF.TABLE[int, *keel/units.holder]: its functions' contracts.
-/
import Derived.Test.YtefagdbdimpcdaaTIHD
import Derived.Test.YtefagdbdimpcdaaEInt
import Derived.Test.YtefagdbdimpcdaaIter
set_option linter.unusedVariables false
set_option linter.unusedSimpArgs false
namespace Go.Proofs.Ytefagdbdimpcdaa
open Go Go.RowKit
namespace TIH

/-- A table: one cell, its rows. -/
def TbP (w : World) (ow : Ow) (p : List Nat) (g o : Nat) (rows : List R) : Prop :=
  ∃ v : Value, Cells w ow (p ++ [0]) g o [v] ∧ Row w ow (p ++ [1]) 125 2 v rows.length (css rows)
theorem TbP.keep {w w1 : World} {ow ow1 : Ow} {p q : List Nat} {g o : Nat} {rows : List R} (h : TbP w ow p g o rows) (t : Turn q w ow w1 ow1) (h0 : ¬ q <+: p ++ [0]) (h1 : ¬ q <+: p ++ [1]) : TbP w1 ow1 p g o rows := by
  obtain ⟨v, hc, hr⟩ := h
  exact ⟨v, hc.keep t h0, hr.keep t h1⟩
theorem TbP.new_ {w w1 : World} {ow ow1 : Ow} {p : List Nat} {g o : Nat} {rows : List R} (h : TbP w ow p g o rows) (t : New w ow w1 ow1) : TbP w1 ow1 p g o rows := by
  obtain ⟨v, hc, hr⟩ := h
  exact ⟨v, hc.new_ t, hr.new_ t⟩
theorem TbP.nil {w : World} {ow : Ow} {p : List Nat} {g o : Nat} (h : Cells w ow (p ++ [0]) g o [.slice none 0 0]) : TbP w ow p g o [] := ⟨_, h, Row.nil _ _ _ _ _⟩
/-- What a call that may turn the table leaves. -/
def TbL (w : World) (ow : Ow) (p : List Nat) (g o : Nat) (v : Value) (rows : List R) (e : Ending) (w' : World) : Prop :=
  ∃ ow', e = .returned v ∧ TbP w' ow' p g o rows ∧ Turn p w ow w' ow'
theorem Pos.of {rows : List R} {k : Int} {i : Nat} (h1 : i ≤ rows.length) (h2 : ∀ r ∈ rows.take i, r.1 < k) (h3 : ∀ r ∈ rows.drop i, k ≤ r.1) : Pos rows k i :=
  ⟨h1, fun t r ht hlt => h2 r (List.mem_of_getElem? (i := t) (by rw [List.getElem?_take, if_pos hlt]; exact ht)), fun t r ht hle => h3 r (List.mem_of_getElem? (i := t - i) (by rw [List.getElem?_drop, show i + (t - i) = t by omega]; exact ht))⟩
theorem foundB_yes {rows : List R} {k : Int} {i : Nat} {r : R} (h : rows[i]? = some r) (hk : r.1 = k) : foundB rows k i = true := by
  unfold foundB
  rw [h]
  exact decide_eq_true hk
theorem foundB_some {rows : List R} {k : Int} {i : Nat} (h : foundB rows k i = true) : ∃ r, rows[i]? = some r ∧ r.1 = k := by
  unfold foundB at h
  split at h
  · rename_i r hr
    exact ⟨r, hr, of_decide_eq_true h⟩
  · cases h

set_option maxHeartbeats 400000 in
theorem t_find (w : World) (ow : Ow) (p : List Nat) (g o : Nat) (rows : List R) (k : Int) (i : Nat) (h : TbP w ow p g o rows) (hP : Pos rows k i) (hn : rows.length ≤ 1099511627776) :
    Calls Try.prog 75 #[.pointer (some ⟨g, o, none⟩), .int .i64 k] w fun e w' => e = .returned (.tuple #[.int .i64 (i : Int), .bool (foundB rows k i)]) ∧ Below w.heap.size w w' := by
  obtain ⟨v, hc, hr⟩ := h
  obtain ⟨A, c, rfl, hnc⟩ := hr.slice
  have c0 := hc.get0
  have hcall := bsf w _ rows k i hr.reads hP hn
  have Hcall := Lib.hid hcall
  clear hcall hr hP
  go_enter Try.func75, Try.ntmps75
  go_wp2_with fail
  refine Hcall.out.mono ?_
  rintro e w1 ⟨rfl, hb⟩
  go_wp2
  go_ret2
  exact ⟨rfl, hb⟩

set_option maxHeartbeats 400000 in
theorem t_get_no (w : World) (ow : Ow) (p : List Nat) (g o : Nat) (rows : List R) (k : Int) (i : Nat) (h : TbP w ow p g o rows) (hP : Pos rows k i) (hf : foundB rows k i = false) (hn : rows.length ≤ 1099511627776) :
    Calls Try.prog 49 #[.pointer (some ⟨g, o, none⟩), .int .i64 k] w fun e w' => e = .returned (.tuple #[.pointer none, .bool false]) ∧ Below w.heap.size w w' := by
  have hcall := t_find w ow p g o rows k i h hP hn
  rw [hf] at hcall
  have Hcall := Lib.hid hcall
  clear hcall hP hf
  go_enter Try.func49, Try.ntmps49
  go_wp2_with fail
  refine Hcall.out.mono ?_
  rintro e w1 ⟨rfl, hb⟩
  go_wp2
  go_ret2
  exact ⟨rfl, hb⟩

set_option maxHeartbeats 400000 in
theorem t_get_yes (w : World) (ow : Ow) (p : List Nat) (g o : Nat) (rows : List R) (k : Int) (i : Nat) (r : R) (h : TbP w ow p g o rows) (hP : Pos rows k i) (hr : rows[i]? = some r) (hk : r.1 = k) (hn : rows.length ≤ 1099511627776) :
    Calls Try.prog 49 #[.pointer (some ⟨g, o, none⟩), .int .i64 k] w fun e w' => e = .returned (.tuple #[.pointer (some ⟨r.2, 0, none⟩), .bool true]) ∧ Below w.heap.size w w' := by
  have hcall := t_find w ow p g o rows k i h hP hn
  rw [foundB_yes hr hk] at hcall
  have hlt : i < rows.length := (List.getElem?_eq_some_iff.1 hr).1
  obtain ⟨v, hc, hrow⟩ := h
  obtain ⟨b, off, cap, rfl, hnc, hm, hbl, ho, hf, hcell⟩ := hrow.at (by omega)
  have e1 := hcell (i * 2 + 1) _ (css_at rows i r hr 1 _ rfl (by omega))
  simp only [← Nat.add_assoc] at e1
  have c0 := hc.get0
  have i0 : (i : Int) < (rows.length : Int) := by omega
  have lg := hc.lt
  have Hcall := Lib.hid hcall
  clear hcall hP hr hk hcell hrow
  go_enter Try.func49, Try.ntmps49
  go_wp2_with fail
  refine Hcall.out.mono ?_
  rintro e w1 ⟨rfl, hb⟩
  have c0 := (hb.cell (p := ⟨g, o, none⟩) lg).trans c0
  have e1 := (hb.cell (p := ⟨b, off + i * 2 + 1, none⟩) hbl).trans e1
  go_wp2
  go_ret2
  exact ⟨rfl, hb⟩

theorem css_upd (rows : List R) (i : Nat) (r : R) (v : Nat) (hr : rows[i]? = some r) : (css rows).set (i * 2 + 1) (.pointer (some ⟨v, 0, none⟩)) = css (rows.set i (r.1, v)) := by
  have h := css_cells rows i (r.1, v)
  rw [← h]
  congr 1
  exact (set_same _ _ _ (by have := css_at rows i r hr 0 _ rfl (by omega); simpa using this)).symm

set_option maxHeartbeats 400000 in
theorem t_set_old (w : World) (ow : Ow) (p : List Nat) (g o : Nat) (rows : List R) (k : Int) (v : Nat) (i : Nat) (r : R) (h : TbP w ow p g o rows) (hP : Pos rows k i) (hr : rows[i]? = some r) (hk : r.1 = k) (hn : rows.length ≤ 1099511627776) :
    Calls Try.prog 50 #[.pointer (some ⟨g, o, none⟩), .int .i64 k, .pointer (some ⟨v, 0, none⟩)] w (TbL w ow p g o (.bool false) (rows.set i (r.1, v))) := by
  have hcall := t_find w ow p g o rows k i h hP hn
  rw [foundB_yes hr hk] at hcall
  have hlt : i < rows.length := (List.getElem?_eq_some_iff.1 hr).1
  have hup := css_upd rows i r v hr
  have Hcall := Lib.hid hcall
  have Hup := Lib.hid hup
  clear hcall hP hr hk hup
  go_enter Try.func50, Try.ntmps50
  go_wp2_with fail
  refine Hcall.out.mono ?_
  rintro e w1 ⟨rfl, hb⟩
  obtain ⟨v', hc, hrow⟩ := h.new_ (hb.nw ow)
  obtain ⟨b, off, cap, rfl, hnc, hm, hbl, ho, hf, hcell⟩ := hrow.at (by omega)
  have e1 := hcell (i * 2 + 1) _ (List.getElem?_eq_getElem (by rw [css_length]; omega))
  simp only [← Nat.add_assoc] at e1
  have c0 := hc.get0
  have i0 : (i : Int) < (rows.length : Int) := by omega
  have lg := hc.lt
  have hs := hrow.set (i * 2 + 1) (.pointer (some ⟨v, 0, none⟩))
  have ht := hrow.turn (off + (i * 2 + 1)) (.pointer (some ⟨v, 0, none⟩))
  have hc2 := hc.keep ht (by simp)
  rw [Hup.out] at hs
  simp only [← Nat.add_assoc] at hs ht hc2
  have Hho := Lib.hid ho
  clear ho hcell hrow h
  go_wp2
  go_ret
  exact ⟨ow, rfl, ⟨_, hc2, by rw [List.length_set]; exact hs⟩, ((hb.nw ow).turn p).trans (ht.up (by simp))⟩

set_option maxHeartbeats 1000000 in
theorem t_set_new (w : World) (ow : Ow) (p : List Nat) (g o : Nat) (rows : List R) (k : Int) (v : Nat) (i : Nat) (h : TbP w ow p g o rows) (hP : Pos rows k i) (hf : foundB rows k i = false) (hn : rows.length ≤ 1099511627776) :
    Calls Try.prog 50 #[.pointer (some ⟨g, o, none⟩), .int .i64 k, .pointer (some ⟨v, 0, none⟩)] w (TbL w ow p g o (.bool true) (insR rows i (k, v))) := by
  have hcall := t_find w ow p g o rows k i h hP hn
  rw [hf] at hcall
  have Hcall := Lib.hid hcall
  have hi := hP.1
  clear hcall hP hf
  go_enter Try.func50, Try.ntmps50
  go_wp2_with fail
  refine Hcall.out.mono ?_
  rintro e w1 ⟨rfl, hb⟩
  obtain ⟨v', hc, hrow⟩ := h.new_ (hb.nw ow)
  obtain ⟨A, c, rfl, hnc⟩ := hrow.slice
  have c0 := hc.get0
  have hrow1 := hrow.alloc (Obj.cells (cs (k, v)).toArray 125) (p ++ [2])
  have hX : Loc (w1.alloc (Obj.cells (cs (k, v)).toArray 125)) w1.heap.size (cs (k, v)) := Loc.make rfl rfl
  have hcall2 := ins _ _ (p ++ [1]) A c rows (k, v) i w1.heap.size hrow1 hi hn hX (by rw [Ow.set_same]; simp)
  have hc1 := hc.alloc (Obj.cells (cs (k, v)).toArray 125) (p ++ [2])
  have t1 := ((hb.nw ow).turn p).trans ((Turn.refl p w1 ow).alloc (Obj.cells (cs (k, v)).toArray 125) (p ++ [2]))
  have Hcall2 := Lib.hid hcall2
  clear hcall2 hrow1 hX hrow h
  go_wp2_with fail
  refine Hcall2.out.mono ?_
  rintro e w3 ⟨v3, ow3, rfl, hrow3, t3⟩
  obtain ⟨A3, c3, rfl, -⟩ := hrow3.slice
  have hc3 := hc1.keep t3 (by simp)
  have c0 := hc3.get0
  have f0 := hc3.free o
  have lg := hc3.lt
  have tb := hc3.turn 0 (.slice A3 (insR rows i (k, v)).length c3) (by simp)
  have hr4 := hrow3.keep tb (by simp)
  go_wp2
  go_ret
  exact ⟨ow3, rfl, ⟨_, hc3.set0 _, hr4⟩, (t1.trans (t3.up (by simp))).trans (tb.up (by simp))⟩

set_option maxHeartbeats 400000 in
theorem t_delete_no (w : World) (ow : Ow) (p : List Nat) (g o : Nat) (rows : List R) (k : Int) (i : Nat) (h : TbP w ow p g o rows) (hP : Pos rows k i) (hf : foundB rows k i = false) (hn : rows.length ≤ 1099511627776) :
    Calls Try.prog 81 #[.pointer (some ⟨g, o, none⟩), .int .i64 k] w fun e w' => e = .returned (.bool false) ∧ Below w.heap.size w w' := by
  have hcall := t_find w ow p g o rows k i h hP hn
  rw [hf] at hcall
  have Hcall := Lib.hid hcall
  clear hcall hP hf
  go_enter Try.func81, Try.ntmps81
  go_wp2_with fail
  refine Hcall.out.mono ?_
  rintro e w1 ⟨rfl, hb⟩
  go_wp2
  go_ret
  exact ⟨rfl, hb⟩

set_option maxHeartbeats 1000000 in
theorem t_delete_yes (w : World) (ow : Ow) (p : List Nat) (g o : Nat) (rows : List R) (k : Int) (i : Nat) (r : R) (h : TbP w ow p g o rows) (hP : Pos rows k i) (hr : rows[i]? = some r) (hk : r.1 = k) (hn : rows.length ≤ 1099511627776) :
    Calls Try.prog 81 #[.pointer (some ⟨g, o, none⟩), .int .i64 k] w (TbL w ow p g o (.bool true) (rows.eraseIdx i)) := by
  have hcall := t_find w ow p g o rows k i h hP hn
  rw [foundB_yes hr hk] at hcall
  have hlt : i < rows.length := (List.getElem?_eq_some_iff.1 hr).1
  obtain ⟨n, hln⟩ : ∃ n, rows.length = n + 1 := ⟨rows.length - 1, by omega⟩
  have Hcall := Lib.hid hcall
  clear hcall hP hr hk
  go_enter Try.func81, Try.ntmps81
  go_wp2_with fail
  refine Hcall.out.mono ?_
  rintro e w1 ⟨rfl, hb⟩
  obtain ⟨v', hc, hrow⟩ := h.new_ (hb.nw ow)
  rw [hln] at hrow
  obtain ⟨A, c, rfl, hnc⟩ := hrow.slice
  have c0 := hc.get0
  have hcall2 := del w1 ow (p ++ [1]) A c n rows i hln hrow (by omega) (by omega)
  have Hcall2 := Lib.hid hcall2
  have hi2 : (i : Int) ≤ 1099511627776 := by omega
  clear hcall2 hrow h hln hlt
  go_wp2_with fail
  refine Hcall2.out.mono ?_
  rintro e w3 ⟨v3, ow3, rfl, hrow3, t3⟩
  obtain ⟨A3, c3, rfl, -⟩ := hrow3.slice
  have hc3 := hc.keep t3 (by simp)
  have c0 := hc3.get0
  have f0 := hc3.free o
  have lg := hc3.lt
  have tb := hc3.turn 0 (.slice A3 (rows.eraseIdx i).length c3) (by simp)
  have hr4 := hrow3.keep tb (by simp)
  go_wp2
  go_ret
  exact ⟨ow3, rfl, ⟨_, hc3.set0 _, hr4⟩, (((hb.nw ow).turn p).trans (t3.up (by simp))).trans (tb.up (by simp))⟩

end TIH
end Go.Proofs.Ytefagdbdimpcdaa
