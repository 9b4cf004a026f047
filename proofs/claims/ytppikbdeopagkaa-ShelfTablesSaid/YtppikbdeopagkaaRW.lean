/-
  KEELREF1.ROWS: contracts: find, Get, Below, Set, Delete.
-/
import Derived.Test.YtppikbdeopagkaaRL2
set_option linter.unusedVariables false
set_option linter.unusedSimpArgs false
namespace Go.Proofs.Ytppikbdeopagkaa
open Go Go.RowKit
namespace RW
open EInt
open RL (css_erase map_erase)

/-- The document's table: keys and values, in no order. -/
def Rw (w : World) (ow : Ow) (p : List Nat) (g : Nat) (ys : List (Int × Int)) : Prop :=
  ∃ vk vv, Cells w ow (p ++ [0]) g 0 [vk, vv] ∧ Row w ow (p ++ [1]) 3 1 vk ys.length (css (ys.map (·.1))) ∧ Row w ow (p ++ [2]) 3 1 vv ys.length (css (ys.map (·.2)))
theorem Rw.keep {w w1 : World} {ow ow1 : Ow} {p q : List Nat} {g : Nat} {ys : List (Int × Int)} (h : Rw w ow p g ys) (t : Turn q w ow w1 ow1) (hq : ∀ s, ¬ q <+: p ++ s) : Rw w1 ow1 p g ys := by
  obtain ⟨vl, vx, hc, h1, h2⟩ := h
  exact ⟨vl, vx, hc.keep t (hq _), h1.keep t (hq _), h2.keep t (hq _)⟩
theorem Rw.new_ {w w1 : World} {ow ow1 : Ow} {p : List Nat} {g : Nat} {ys : List (Int × Int)} (h : Rw w ow p g ys) (t : New w ow w1 ow1) : Rw w1 ow1 p g ys := by
  obtain ⟨vl, vx, hc, h1, h2⟩ := h
  exact ⟨vl, vx, hc.new_ t, h1.new_ t, h2.new_ t⟩
def RwP (w : World) (ow : Ow) (p : List Nat) (g : Nat) (v : Value) (ys : List (Int × Int)) (e : Ending) (w' : World) : Prop := ∃ ow', e = .returned v ∧ Rw w' ow' p g ys ∧ Turn p w ow w' ow'

/-- b: the first place of the key. -/
def At (ys : List (Int × Int)) (k : Int) (b : Nat) (y : Int × Int) : Prop := ys[b]? = some y ∧ y.1 = k ∧ ∀ j z, j < b → ys[j]? = some z → z.1 ≠ k
def FdP (w : World) (ys : List (Int × Int)) (k : Int) (e : Ending) (w' : World) : Prop :=
  (((∀ z ∈ ys, z.1 ≠ k) ∧ e = .returned (.int .i64 (-1))) ∨ ∃ b y, At ys k b y ∧ e = .returned (.int .i64 (b : Int))) ∧ Below w.heap.size w w'
def fdRel (w : World) (ys : List (Int × Int)) (k : Int) (i : Value) (wr : World) : Prop :=
  ∃ m : Nat, m ≤ ys.length ∧ i = .int .i64 (m : Int) ∧ (∀ j z, j < m → ys[j]? = some z → z.1 ≠ k) ∧ Below w.heap.size w wr

set_option maxRecDepth 100000 in
set_option maxHeartbeats 2000000 in
theorem find (w : World) (ow : Ow) (p : List Nat) (g : Nat) (ys : List (Int × Int)) (k : Int) (h : Rw w ow p g ys) (hn : ys.length ≤ 1099511627776) :
    Calls Try.prog 117 #[.pointer (some ⟨g, 0, none⟩), .int .i64 k] w (FdP w ys k) := by
  obtain ⟨vl, vx, hc, hr1, hr2⟩ := h
  obtain ⟨A, c, rfl, hnc⟩ := hr1.slice
  have R1 := Lib.hid hr1.reads
  have c1 := hc.get0
  have lg := hc.lt
  clear hr1 hr2 hc
  go_enter Try.func117, Try.ntmps117
  go_wp2
  go_loopw [5] (fun i wr => fdRel w ys k i wr) (fun i _ => ys.length - (intOf i).toNat)
  case atStart => exact ⟨0, Nat.zero_le _, rfl, fun j z hj => by omega, Below.refl _ _⟩
  case round =>
    obtain ⟨m, hm, rfl, hno, bd⟩ := hrel
    have c1 := (bd.cell (p := ⟨g, 0, none⟩) lg).trans c1
    by_cases hlt : m < ys.length
    · obtain ⟨x, hx⟩ : ∃ x, ys[m]? = some x := ⟨_, List.getElem?_eq_getElem hlt⟩
      have i0 : (m : Int) < (ys.length : Int) := by omega
      obtain ⟨b8, off8, cap8, hv, -, hcell⟩ := (R1.out.new_ bd).at (by omega)
      simp only [Value.slice.injEq] at hv
      obtain ⟨rfl, -, rfl⟩ := hv
      have e0 := hcell (m * 1 + 0) _ (css_at _ m x.1 (by rw [List.getElem?_map, hx]; rfl) 0 _ rfl (by omega))
      simp only [Nat.mul_one, Nat.add_zero] at e0
      have Hx := Lib.hid hx
      have Hno := Lib.hid hno
      clear hcell hx hno
      by_cases hk : x.1 = k
      · have b0 : (x.1 == k) = true := beq_iff_eq.2 hk
        have Hk := Lib.hid hk
        clear hk
        go_wp2
        go_ret
        exact ⟨.inr ⟨m, x, ⟨Hx.out, Hk.out, Hno.out⟩, rfl⟩, bd⟩
      · have b0 : (x.1 == k) = false := beq_eq_false_iff_ne.2 hk
        have Hk := Lib.hid hk
        clear hk
        go_wp2
        refine ⟨⟨m + 1, by omega, by go_num, fun j z hj hz => ?_, bd⟩, by simp only [intOf]; omega⟩
        by_cases e : j = m
        · subst e
          have := Hx.out
          rw [hz] at this
          rw [Option.some.inj this]
          exact Hk.out
        · exact Hno.out j z (by omega) hz
    · obtain rfl : m = ys.length := by omega
      have Hno := Lib.hid hno
      clear hno
      go_wp2
      go_ret
      refine ⟨.inl ⟨fun z hz => ?_, rfl⟩, bd⟩
      obtain ⟨j, hj⟩ := List.getElem?_of_mem hz
      exact Hno.out j z (List.getElem?_eq_some_iff.1 hj).1 hj

set_option maxRecDepth 100000 in
set_option maxHeartbeats 2000000 in
theorem get_no (w : World) (ow : Ow) (p : List Nat) (g : Nat) (ys : List (Int × Int)) (k : Int) (h : Rw w ow p g ys) (hn : ys.length ≤ 1099511627776) (hk : ∀ z ∈ ys, z.1 ≠ k) :
    Calls Try.prog 80 #[.pointer (some ⟨g, 0, none⟩), .int .i64 k] w fun e w' => e = .returned (.tuple #[.int .i64 0, .bool false]) ∧ Below w.heap.size w w' := by
  have hf := find w ow p g ys k h hn
  have Hf := Lib.hid hf
  have Hk := Lib.hid hk
  clear hf h hk
  go_enter Try.func80, Try.ntmps80
  go_wp2_with fail
  refine Hf.out.mono ?_
  rintro e w1 ⟨⟨-, rfl⟩ | ⟨b, y, ⟨h1, h2, -⟩, -⟩, bd⟩
  · go_wp2
    go_ret2
    exact ⟨rfl, bd⟩
  · exact absurd h2 (Hk.out y (List.mem_of_getElem? h1))
set_option maxRecDepth 100000 in
set_option maxHeartbeats 2000000 in
theorem get_yes (w : World) (ow : Ow) (p : List Nat) (g : Nat) (ys : List (Int × Int)) (k : Int) (h : Rw w ow p g ys) (hn : ys.length ≤ 1099511627776) (hk : ¬ ∀ z ∈ ys, z.1 ≠ k) :
    Calls Try.prog 80 #[.pointer (some ⟨g, 0, none⟩), .int .i64 k] w fun e w' => ∃ b y, At ys k b y ∧ e = .returned (.tuple #[.int .i64 y.2, .bool true]) ∧ Below w.heap.size w w' := by
  have hf := find w ow p g ys k h hn
  have Hf := Lib.hid hf
  have H := Lib.hid h
  clear hf h
  go_enter Try.func80, Try.ntmps80
  go_wp2_with fail
  refine Hf.out.mono ?_
  rintro e w1 ⟨⟨hno, -⟩ | ⟨b, y, hat, rfl⟩, bd⟩
  · exact absurd hno hk
  · obtain ⟨h1, -⟩ := id hat
    have hbl := (List.getElem?_eq_some_iff.1 h1).1
    obtain ⟨vl, vx, hc, hr1, hr2⟩ := H.out.new_ (bd.nw ow)
    obtain ⟨g2, off2, cap2, rfl, -, -, -, -⟩ := hr2.at (by omega)
    obtain ⟨-, -, -, hcell2⟩ := hr2.open_
    have e2 := hcell2 (b * 1 + 0) _ (css_at _ b y.2 (by rw [List.getElem?_map, h1]; rfl) 0 _ rfl (by omega))
    simp only [Nat.mul_one, Nat.add_zero] at e2
    have c2 := hc.get 1 rfl
    simp only [Nat.zero_add] at c2
    have i0 : ¬ (b : Int) < 0 := by omega
    have i1 : (b : Int) < (ys.length : Int) := by omega
    have Hat := Lib.hid hat
    clear hcell2 hr1 hr2 hc hat h1 Hf
    go_wp2
    go_ret2
    exact ⟨b, y, Hat.out, rfl, bd⟩

def blw (ys : List (Int × Int)) (k : Int) : Nat := (ys.filter fun y => decide (y.1 < k)).length
theorem blw_step (ys : List (Int × Int)) (k : Int) (m : Nat) (x : Int × Int) (hx : ys[m]? = some x) : blw (ys.take (m + 1)) k = blw (ys.take m) k + if x.1 < k then 1 else 0 := by
  rw [List.take_add_one, hx, blw, List.filter_append, List.length_append]
  by_cases h : x.1 < k <;> simp [blw, h]
theorem blw_le (ys : List (Int × Int)) (k : Int) : blw ys k ≤ ys.length := List.length_filter_le _ _
def blwRel (w : World) (ys : List (Int × Int)) (k : Int) (n i : Value) (wr : World) : Prop :=
  ∃ m : Nat, m ≤ ys.length ∧ i = .int .i64 (m : Int) ∧ n = .int .i64 (blw (ys.take m) k : Int) ∧ Below w.heap.size w wr
set_option maxRecDepth 100000 in
set_option maxHeartbeats 2000000 in
theorem below (w : World) (ow : Ow) (p : List Nat) (g : Nat) (ys : List (Int × Int)) (k : Int) (h : Rw w ow p g ys) (hn : ys.length ≤ 1099511627776) :
    Calls Try.prog 85 #[.pointer (some ⟨g, 0, none⟩), .int .i64 k] w fun e w' => e = .returned (.int .i64 (blw ys k : Int)) ∧ Below w.heap.size w w' := by
  obtain ⟨vl, vx, hc, hr1, hr2⟩ := h
  obtain ⟨A, c, rfl, hnc⟩ := hr1.slice
  have R1 := Lib.hid hr1.reads
  have c1 := hc.get0
  have lg := hc.lt
  clear hr1 hr2 hc
  go_enter Try.func85, Try.ntmps85
  go_wp2
  go_loopw [5, 6] (fun n i wr => blwRel w ys k n i wr) (fun _ i _ => ys.length - (intOf i).toNat)
  case atStart => exact ⟨0, Nat.zero_le _, rfl, by simp [blw], Below.refl _ _⟩
  case round =>
    obtain ⟨m, hm, rfl, rfl, bd⟩ := hrel
    have c1 := (bd.cell (p := ⟨g, 0, none⟩) lg).trans c1
    by_cases hlt : m < ys.length
    · obtain ⟨x, hx⟩ : ∃ x, ys[m]? = some x := ⟨_, List.getElem?_eq_getElem hlt⟩
      have i0 : (m : Int) < (ys.length : Int) := by omega
      obtain ⟨b8, off8, cap8, hv, -, hcell⟩ := (R1.out.new_ bd).at (by omega)
      simp only [Value.slice.injEq] at hv
      obtain ⟨rfl, -, rfl⟩ := hv
      have e0 := hcell (m * 1 + 0) _ (css_at _ m x.1 (by rw [List.getElem?_map, hx]; rfl) 0 _ rfl (by omega))
      simp only [Nat.mul_one, Nat.add_zero] at e0
      have st := blw_step ys k m x hx
      have le := blw_le (ys.take m) k
      rw [List.length_take] at le
      clear hcell hx
      generalize blw (ys.take m) k = acc at *
      by_cases hl : x.1 < k
      · rw [if_pos hl] at st
        have S2 := Lib.hid st
        clear st
        go_wp2
        exact ⟨⟨m + 1, by omega, by go_num, by rw [S2.out]; go_num, bd⟩, by simp only [intOf]; omega⟩
      · rw [if_neg hl, Nat.add_zero] at st
        have S2 := Lib.hid st
        clear st
        go_wp2
        exact ⟨⟨m + 1, by omega, by go_num, by rw [S2.out]; rfl, bd⟩, by simp only [intOf]; omega⟩
    · obtain rfl : m = ys.length := by omega
      rw [List.take_length] at *
      go_wp2
      go_ret
      exact ⟨rfl, bd⟩

set_option maxRecDepth 100000 in
set_option maxHeartbeats 2000000 in
theorem set_new (w : World) (ow : Ow) (p : List Nat) (g : Nat) (ys : List (Int × Int)) (k x : Int) (h : Rw w ow p g ys) (hn : ys.length ≤ 1099511627776) (hk : ∀ z ∈ ys, z.1 ≠ k) :
    Calls Try.prog 73 #[.pointer (some ⟨g, 0, none⟩), .int .i64 k, .int .i64 x] w (RwP w ow p g (.bool true) (ys ++ [(k, x)])) := by
  have hf := find w ow p g ys k h hn
  have Hf := Lib.hid hf
  have H := Lib.hid h
  have Hk := Lib.hid hk
  clear hf h hk
  go_enter Try.func73, Try.ntmps73
  go_wp2_with fail
  refine Hf.out.mono ?_
  rintro e w0 ⟨⟨-, rfl⟩ | ⟨b, y, ⟨h1, h2, -⟩, -⟩, bd⟩
  · obtain ⟨vl, vx, hc, hr1, hr2⟩ := H.out.new_ (bd.nw ow)
    have t := (bd.nw ow).turn p
    obtain ⟨A, c, rfl, hnc⟩ := hr1.slice
    obtain ⟨B, d, rfl, hnd⟩ := hr2.slice
    have c1 := hc.get0
    have f1 := hc.free 0
    have lg := hc.lt
    clear H Hf Hk
    go_wp2_with (at_builtin; refine wpList_append_row rfl (.tmp 17) (.tmp 19) 22 22 rfl 3 _ 1 8 Try.underlying22 info rfl rfl (hr1.alloc_ _) rfl ((Reads.new _ (cs k) _ 1 1 (Nat.le_refl _)).src Try.underlying22 rfl (cs_one k)) (by unfold maxLen; omega) (by omega) ?_)
    intro v' w1 ow1 hrow1 ht1
    obtain ⟨A1, c1', rfl, hnc1⟩ := hrow1.slice
    have t1 := ((Turn.refl (p ++ [1]) w0 ow).alloc_ (.cells (cs k).toArray 3)).trans ht1
    have hc1 := hc.keep t1 (by simp)
    have hr2' := hr2.keep t1 (by simp)
    clear c1 f1 lg
    have f1 := hc1.free 0
    have lg := hc1.lt
    have c1 := hc1.get0
    have hc2 := hc1.set0 (.slice A1 (ys.length + 1) c1')
    have tt := hc1.turn 0 (.slice A1 (ys.length + 1) c1') (by simp)
    have hrow1' := hrow1.keep tt (by simp)
    have hr3 := hr2'.keep tt (by simp)
    have t2 := t.trans ((t1.up (p := p) (by simp)).trans (tt.up (p := p) (by simp)))
    go_upto_region 4 with fail
    simp only [Nat.add_zero] at tt hrow1' hr3 t2
    generalize w1.setCell ⟨g, 0, none⟩ (.slice A1 (ys.length + 1) c1') = w1 at *
    clear c1 f1 lg hc1 hr2' t1 tt hrow1 hc hr1 hr2 t
    have c2 := hc2.get 1 rfl
    have lg := hc2.lt
    simp only [Nat.zero_add] at c2
    go_wp2_with (at_builtin; refine wpList_append_row rfl (.tmp 27) (.tmp 29) 22 22 rfl 3 _ 1 8 Try.underlying22 info rfl rfl (hr3.alloc_ _) rfl ((Reads.new _ (cs x) _ 1 1 (Nat.le_refl _)).src Try.underlying22 rfl (cs_one x)) (by unfold maxLen; omega) (by omega) ?_)
    intro v'' w2 ow2 hrow2 ht2
    obtain ⟨A2, c2', rfl, hnc2⟩ := hrow2.slice
    have t3 := ((Turn.refl (p ++ [2]) w1 ow1).alloc_ (.cells (cs x).toArray 3)).trans ht2
    have hc3 := hc2.keep t3 (by simp)
    have hrow3 := hrow1'.keep t3 (by simp)
    clear c2 lg
    have c2 := hc3.get 1 rfl
    have f2 := hc3.free 1
    have lg := hc3.lt
    simp only [Nat.zero_add] at c2
    have hc4 := hc3.set 1 (.slice A2 (ys.length + 1) c2') (by simp)
    have tt2 := hc3.turn 1 (.slice A2 (ys.length + 1) c2') (by simp)
    simp only [Nat.zero_add] at hc4 tt2
    go_wp2
    go_ret
    refine ⟨ow2, rfl, ⟨_, _, hc4, ?_, ?_⟩, (t2.trans (t3.up (by simp))).trans (tt2.up (by simp))⟩
    · rw [List.map_append, List.length_append]
      have := hrow3.keep tt2 (by simp)
      rw [← css_snoc] at this
      exact this
    · rw [List.map_append, List.length_append]
      have := hrow2.keep tt2 (by simp)
      rw [← css_snoc] at this
      exact this
  · exact absurd h2 (Hk.out y (List.mem_of_getElem? h1))

def SetP (w : World) (ow : Ow) (p : List Nat) (g : Nat) (ys : List (Int × Int)) (k x : Int) (e : Ending) (w' : World) : Prop := ∃ b y ow', At ys k b y ∧ e = .returned (.bool false) ∧ Rw w' ow' p g (ys.set b (k, x)) ∧ Turn p w ow w' ow'
set_option maxRecDepth 100000 in
set_option maxHeartbeats 2000000 in
theorem set_old (w : World) (ow : Ow) (p : List Nat) (g : Nat) (ys : List (Int × Int)) (k x : Int) (h : Rw w ow p g ys) (hn : ys.length ≤ 1099511627776) (hk : ¬ ∀ z ∈ ys, z.1 ≠ k) :
    Calls Try.prog 73 #[.pointer (some ⟨g, 0, none⟩), .int .i64 k, .int .i64 x] w (SetP w ow p g ys k x) := by
  have hf := find w ow p g ys k h hn
  have Hf := Lib.hid hf
  have H := Lib.hid h
  clear hf h
  go_enter Try.func73, Try.ntmps73
  go_wp2_with fail
  refine Hf.out.mono ?_
  rintro e w1 ⟨⟨hno, -⟩ | ⟨b, y, hat, rfl⟩, bd⟩
  · exact absurd hno hk
  · obtain ⟨h1, h2, -⟩ := id hat
    have hbl := (List.getElem?_eq_some_iff.1 h1).1
    obtain ⟨vl, vx, hc, hr1, hr2⟩ := H.out.new_ (bd.nw ow)
    have t := (bd.nw ow).turn p
    obtain ⟨g2, off2, cap2, rfl, -, -, -, -⟩ := hr2.at (by omega)
    obtain ⟨lg2, ho2, hf2, hcell2⟩ := hr2.open_
    have e2 := hcell2 (b * 1 + 0) _ (css_at _ b y.2 (by rw [List.getElem?_map, h1]; rfl) 0 _ rfl (by omega))
    simp only [Nat.mul_one, Nat.add_zero] at e2
    have c2 := hc.get 1 rfl
    simp only [Nat.zero_add] at c2
    have i0 : ¬ (b : Int) < 0 := by omega
    have i1 : (b : Int) < (ys.length : Int) := by omega
    have f2 := hf2 (off2 + b)
    have Hat := Lib.hid hat
    have hrs := hr2.set b (.int .i64 x)
    have tt := hr2.turn (off2 + b) (.int .i64 x)
    have hc' := hc.keep tt (by simp)
    have hr1' := hr1.keep tt (by simp)
    have fin := t.trans (tt.up (p := p) (by simp))
    have hcs : (css (ys.map (·.2))).set b (.int .i64 x) = css ((ys.set b (k, x)).map (·.2)) := by
      have := css_cells (ys.map (·.2)) b x
      simp only [Nat.mul_one] at this
      rw [this, List.map_set]
    have hmk : (ys.set b (k, x)).map (·.1) = ys.map (·.1) := by
      rw [List.map_set]
      apply List.ext_getElem?
      intro j
      by_cases e : j = b
      · subst e
        rw [List.getElem?_set_self (by rw [List.length_map]; exact hbl), List.getElem?_map, h1]
        exact congrArg some h2.symm
      · rw [List.getElem?_set_ne (Ne.symm e)]
    rw [hcs] at hrs
    have hlen : (ys.set b (k, x)).length = ys.length := List.length_set ..
    have Hmk := Lib.hid hmk
    have Hlen := Lib.hid hlen
    clear hcell2 hat h1 h2 Hf hcs hmk hlen H
    go_wp2
    go_ret
    refine ⟨b, y, ow, Hat.out, rfl, ⟨_, _, hc', ?_, ?_⟩, fin⟩
    · rw [Hlen.out, Hmk.out]; exact hr1'
    · rw [Hlen.out]; exact hrs

end RW
end Go.Proofs.Ytppikbdeopagkaa
