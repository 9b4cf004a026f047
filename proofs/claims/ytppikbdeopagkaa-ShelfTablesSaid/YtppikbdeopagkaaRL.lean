/-
  KEELREF1.LEVELS: contracts; and Count of shelf.Levels.
-/
import Derived.Test.YtppikbdeopagkaaEIntL2
import Derived.Test.YtppikbdeopagkaaCalc
import Derived.Test.YtppikbdeopagkaaMore
import Derived.Deep.LoopGhost
import Derived.Deep.DeepCutAuto
set_option linter.unusedVariables false
set_option linter.unusedSimpArgs false
namespace Go.Proofs.Ytppikbdeopagkaa
open Go Go.RowKit
namespace EInt

set_option maxHeartbeats 1000000 in
theorem l_count_out (w : World) (ow : Ow) (p : List Nat) (g o : Nat) (qs : List (List Int)) (lv : Int) (h : L w ow p g o qs) (hl : qs.length ≤ 32) (hlv : lv < 1 ∨ (qs.length : Int) < lv) :
    Calls Try.prog 94 #[.pointer (some ⟨g, o, none⟩), .int .i64 lv] w fun e w' => e = .returned (.int .i64 0) ∧ Below w.heap.size w w' := by
  obtain ⟨G, O, cap, hc, hq⟩ := h
  have c0 := hc.get0
  clear hq
  go_enter Try.func94, Try.ntmps94
  by_cases h1 : lv < 1
  · go_wp2
    go_ret
    refine ⟨rfl, ?_⟩
    repeat (first | (with_reducible assumption) | (with_reducible exact Below.refl _ _) | (with_reducible refine Below.drew ?_) | (with_reducible refine bdN ?_ _) | ((with_reducible refine bdS ?_ ?_ _); · first | (simp; done) | omega | (simp; omega)) | ((with_reducible refine bdA ?_ ?_ _); · first | (simp; done) | omega | (simp; omega)))
  · have h2 : (qs.length : Int) < lv := by omega
    go_wp2
    go_ret
    refine ⟨rfl, ?_⟩
    repeat (first | (with_reducible assumption) | (with_reducible exact Below.refl _ _) | (with_reducible refine Below.drew ?_) | (with_reducible refine bdN ?_ _) | ((with_reducible refine bdS ?_ ?_ _); · first | (simp; done) | omega | (simp; omega)) | ((with_reducible refine bdA ?_ ?_ _); · first | (simp; done) | omega | (simp; omega)))
set_option maxHeartbeats 1000000 in
theorem l_count (w : World) (ow : Ow) (p : List Nat) (g o : Nat) (qs : List (List Int)) (lv : Int) (i : Nat) (xs : List Int) (h : L w ow p g o qs) (hl : qs.length ≤ 32) (hlv : lv = (i : Int) + 1) (hi : qs[i]? = some xs) (hn : xs.length ≤ 1099511627776) :
    Calls Try.prog 94 #[.pointer (some ⟨g, o, none⟩), .int .i64 lv] w fun e w' => e = .returned (.int .i64 (xs.length : Int)) ∧ Below w.heap.size w w' := by
  obtain ⟨G, O, cap, hc, hq⟩ := h
  have c0 := hc.get0
  have hlt : i < qs.length := (List.getElem?_eq_some_iff.1 hi).1
  have i1 : (i : Int) < (qs.length : Int) := by omega
  have i2 : (i : Int) + 1 ≤ (qs.length : Int) := by omega
  have hcall := fun W (hW : Below w.heap.size w W) => q_len W ow _ _ _ _ ((hq i xs hi).new_ (hW.nw ow)) hn
  have Hcall := Lib.hid hcall
  clear hcall hq hi
  subst hlv
  have wr0 : IntKind.i64.wrap ((i : Int) + 1 - 1) = (i : Int) := by rw [IntKind.wrap_i64]; omega
  have wr1 : IntKind.i64.wrap (i : Int) = (i : Int) := by rw [IntKind.wrap_i64]; omega
  go_enter Try.func94, Try.ntmps94
  go_wp2_with fail
  refine (Hcall.out _ (by repeat (first | (with_reducible assumption) | (with_reducible exact Below.refl _ _) | (with_reducible refine Below.drew ?_) | (with_reducible refine bdN ?_ _) | ((with_reducible refine bdS ?_ ?_ _); · first | (simp; done) | omega | (simp; omega)) | ((with_reducible refine bdA ?_ ?_ _); · first | (simp; done) | omega | (simp; omega))))).mono ?_
  rintro e w1 ⟨rfl, k, rfl⟩
  go_wp2
  go_ret
  refine ⟨rfl, ?_⟩
  repeat (first | (with_reducible assumption) | (with_reducible exact Below.refl _ _) | (with_reducible refine Below.drew ?_) | (with_reducible refine bdN ?_ _) | ((with_reducible refine bdS ?_ ?_ _); · first | (simp; done) | omega | (simp; omega)) | ((with_reducible refine bdA ?_ ?_ _); · first | (simp; done) | omega | (simp; omega)))
end EInt
namespace RL
open EInt

/-- The document's levels: in the order of the Puts, each with its level. -/
def Lv (w : World) (ow : Ow) (p : List Nat) (g n : Nat) (ys : List (Int × Int)) : Prop :=
  ∃ vl vx, Cells w ow (p ++ [0]) g 0 [.int .i64 (n : Int), vl, vx] ∧ Row w ow (p ++ [1]) 3 1 vl ys.length (css (ys.map (·.1))) ∧ Row w ow (p ++ [2]) 3 1 vx ys.length (css (ys.map (·.2)))
theorem Lv.keep {w w1 : World} {ow ow1 : Ow} {p q : List Nat} {g n : Nat} {ys : List (Int × Int)} (h : Lv w ow p g n ys) (t : Turn q w ow w1 ow1) (hq : ∀ s, ¬ q <+: p ++ s) : Lv w1 ow1 p g n ys := by
  obtain ⟨vl, vx, hc, h1, h2⟩ := h
  exact ⟨vl, vx, hc.keep t (hq _), h1.keep t (hq _), h2.keep t (hq _)⟩
theorem Lv.new_ {w w1 : World} {ow ow1 : Ow} {p : List Nat} {g n : Nat} {ys : List (Int × Int)} (h : Lv w ow p g n ys) (t : New w ow w1 ow1) : Lv w1 ow1 p g n ys := by
  obtain ⟨vl, vx, hc, h1, h2⟩ := h
  exact ⟨vl, vx, hc.new_ t, h1.new_ t, h2.new_ t⟩
def LvP (w : World) (ow : Ow) (p : List Nat) (g n : Nat) (v : Value) (ys : List (Int × Int)) (e : Ending) (w' : World) : Prop := ∃ ow', e = .returned v ∧ Lv w' ow' p g n ys ∧ Turn p w ow w' ow'

set_option maxHeartbeats 1000000 in
theorem put_out (w : World) (ow : Ow) (p : List Nat) (g n : Nat) (ys : List (Int × Int)) (lv x : Int) (h : Lv w ow p g n ys) (hlv : lv < 1 ∨ (n : Int) < lv) :
    Calls Try.prog 90 #[.pointer (some ⟨g, 0, none⟩), .int .i64 lv, .int .i64 x] w fun e w' => e = .returned (.bool false) ∧ Below w.heap.size w w' := by
  obtain ⟨vl, vx, hc, h1, h2⟩ := h
  have c0 := hc.get0
  go_enter Try.func90, Try.ntmps90
  by_cases h1 : lv < 1
  · go_wp2
    go_ret
    refine ⟨rfl, ?_⟩
    repeat (first | (with_reducible assumption) | (with_reducible exact Below.refl _ _) | (with_reducible refine Below.drew ?_) | (with_reducible refine bdN ?_ _) | ((with_reducible refine bdS ?_ ?_ _); · first | (simp; done) | omega | (simp; omega)) | ((with_reducible refine bdA ?_ ?_ _); · first | (simp; done) | omega | (simp; omega)))
  · have h2 : (n : Int) < lv := by omega
    go_wp2
    go_ret
    refine ⟨rfl, ?_⟩
    repeat (first | (with_reducible assumption) | (with_reducible exact Below.refl _ _) | (with_reducible refine Below.drew ?_) | (with_reducible refine bdN ?_ _) | ((with_reducible refine bdS ?_ ?_ _); · first | (simp; done) | omega | (simp; omega)) | ((with_reducible refine bdA ?_ ?_ _); · first | (simp; done) | omega | (simp; omega)))

set_option maxHeartbeats 2000000 in
theorem put (w : World) (ow : Ow) (p : List Nat) (g n : Nat) (ys : List (Int × Int)) (lv x : Int) (h : Lv w ow p g n ys) (hlv : ¬ (lv < 1 ∨ (n : Int) < lv)) (hn : ys.length ≤ 1099511627776) :
    Calls Try.prog 90 #[.pointer (some ⟨g, 0, none⟩), .int .i64 lv, .int .i64 x] w (LvP w ow p g n (.bool true) (ys ++ [(lv, x)])) := by
  obtain ⟨vl, vx, hc, hr1, hr2⟩ := h
  obtain ⟨A, c, rfl, hnc⟩ := hr1.slice
  obtain ⟨B, d, rfl, hnd⟩ := hr2.slice
  have c0 := hc.get0
  have c1 := hc.get 1 rfl
  have f1 := hc.free 1
  have lg := hc.lt
  simp only [Nat.zero_add] at c1
  have l1 : ¬ lv < 1 := by omega
  have l2 : ¬ (n : Int) < lv := by omega
  clear hlv
  go_enter Try.func90, Try.ntmps90
  go_wp2_with (at_builtin; refine wpList_append_row rfl (.tmp 21) (.tmp 23) 22 22 rfl 3 _ 1 8 Try.underlying22 info rfl rfl (hr1.alloc_ _) rfl ((Reads.new _ (cs lv) _ 1 1 (Nat.le_refl _)).src Try.underlying22 rfl (cs_one lv)) (by unfold maxLen; omega) (by omega) ?_)
  intro v' w1 ow1 hrow1 ht1
  obtain ⟨A1, c1', rfl, hnc1⟩ := hrow1.slice
  have t1 := ((Turn.refl (p ++ [1]) w ow).alloc_ (.cells (cs lv).toArray 3)).trans ht1
  have hc1 := hc.keep t1 (by simp)
  have hr2' := hr2.keep t1 (by simp)
  clear c0 c1 f1 lg
  have c0 := hc1.get0
  have f1 := hc1.free 1
  have lg := hc1.lt
  have c1 := hc1.get 1 rfl
  have c2 := hc1.get 2 rfl
  simp only [Nat.zero_add] at c1 c2
  have hc2 := hc1.set 1 (.slice A1 (ys.length + 1) c1') (by simp)
  have tt := hc1.turn 1 (.slice A1 (ys.length + 1) c1') (by simp)
  simp only [Nat.zero_add] at hc2 tt
  have hrow1' := hrow1.keep tt (by simp)
  have hr3 := hr2'.keep tt (by simp)
  have t2 := (t1.up (p := p) (by simp)).trans (tt.up (p := p) (by simp))
  go_upto_region 4 with fail
  generalize w1.setCell ⟨g, 1, none⟩ (.slice A1 (ys.length + 1) c1') = w1 at *
  clear c0 c1 c2 f1 lg hc1 hr2' t1 tt hrow1
  have c0 := hc2.get0
  have c2 := hc2.get 2 rfl
  have lg := hc2.lt
  simp only [Nat.zero_add] at c2
  go_wp2_with (at_builtin; refine wpList_append_row rfl (.tmp 31) (.tmp 33) 22 22 rfl 3 _ 1 8 Try.underlying22 info rfl rfl (hr3.alloc_ _) rfl ((Reads.new _ (cs x) _ 1 1 (Nat.le_refl _)).src Try.underlying22 rfl (cs_one x)) (by unfold maxLen; omega) (by omega) ?_)
  intro v'' w2 ow2 hrow2 ht2
  obtain ⟨A2, c2', rfl, hnc2⟩ := hrow2.slice
  have t3 := ((Turn.refl (p ++ [2]) w1 ow1).alloc_ (.cells (cs x).toArray 3)).trans ht2
  have hc3 := hc2.keep t3 (by simp)
  have hrow3 := hrow1'.keep t3 (by simp)
  clear c0 c2 lg
  have c2 := hc3.get 2 rfl
  have f2 := hc3.free 2
  have lg := hc3.lt
  simp only [Nat.zero_add] at c2
  have hc4 := hc3.set 2 (.slice A2 (ys.length + 1) c2') (by simp)
  have tt2 := hc3.turn 2 (.slice A2 (ys.length + 1) c2') (by simp)
  simp only [Nat.zero_add] at hc4 tt2
  go_wp2
  go_ret
  refine ⟨ow2, rfl, ⟨_, _, hc4, ?_, ?_⟩, (t2.trans (t3.up (by simp))).trans (tt2.up (by simp))⟩
  · rw [List.map_append, List.length_append]
    have := hrow3.keep tt2 (by simp)
    rw [← css_snoc] at this
    exact this
  · rw [List.map_append, List.length_append]
    have := hrow2.keep tt2 (by simp)
    rw [← css_snoc] at this
    exact this

/-- b: the first one of the highest level among the first m. -/
def FrTo (ys : List (Int × Int)) (m b : Nat) : Prop :=
  b < m ∧ m ≤ ys.length ∧ (∀ j x y, j < m → ys[j]? = some x → ys[b]? = some y → x.1 ≤ y.1) ∧ ∀ j x y, j < b → ys[j]? = some x → ys[b]? = some y → x.1 < y.1
theorem FrTo.next {ys : List (Int × Int)} {m b : Nat} {x y : Int × Int} (h : FrTo ys m b) (hx : ys[m]? = some x) (hy : ys[b]? = some y) (hlt : y.1 < x.1) : FrTo ys (m + 1) m := by
  obtain ⟨h1, h2, h3, h4⟩ := h
  have hm := (List.getElem?_eq_some_iff.1 hx).1
  have all : ∀ j z, j < m → ys[j]? = some z → z.1 < x.1 := fun j z hj hz => by have := h3 j z y hj hz hy; omega
  refine ⟨by omega, by omega, fun j a c hj ha hc => ?_, fun j a c hj ha hc => ?_⟩
  · obtain rfl : c = x := by rw [hx] at hc; exact (Option.some.inj hc).symm
    by_cases e : j = m
    · subst e
      obtain rfl : a = c := by rw [hc] at ha; exact (Option.some.inj ha).symm
      omega
    · have := all j a (by omega) ha; omega
  · obtain rfl : c = x := by rw [hx] at hc; exact (Option.some.inj hc).symm
    exact all j a hj ha
theorem FrTo.same {ys : List (Int × Int)} {m b : Nat} {x y : Int × Int} (h : FrTo ys m b) (hx : ys[m]? = some x) (hy : ys[b]? = some y) (hle : x.1 ≤ y.1) : FrTo ys (m + 1) b := by
  obtain ⟨h1, h2, h3, h4⟩ := h
  have hm := (List.getElem?_eq_some_iff.1 hx).1
  refine ⟨by omega, by omega, fun j a c hj ha hc => ?_, h4⟩
  by_cases e : j = m
  · subst e
    obtain rfl : a = x := by rw [hx] at ha; exact (Option.some.inj ha).symm
    obtain rfl : c = y := by rw [hy] at hc; exact (Option.some.inj hc).symm
    exact hle
  · exact h3 j a c (by omega) ha hc
theorem FrTo.one {ys : List (Int × Int)} {x : Int × Int} (hx : ys[0]? = some x) : FrTo ys 1 0 := by
  have hm := (List.getElem?_eq_some_iff.1 hx).1
  refine ⟨by omega, by omega, fun j a c hj ha hc => ?_, fun j a c hj => by omega⟩
  obtain rfl : j = 0 := by omega
  rw [ha] at hc
  rw [Option.some.inj hc]
  exact Int.le_refl _

/-- What front's loop keeps. -/
def frRel (w : World) (ys : List (Int × Int)) (best i : Value) (wr : World) : Prop :=
  ∃ m : Nat, m ≤ ys.length ∧ i = .int .i64 (m : Int) ∧ ((m = 0 ∧ best = .int .i64 (-1)) ∨ ∃ b : Nat, best = .int .i64 (b : Int) ∧ FrTo ys m b) ∧ Below w.heap.size w wr
/-- What front answers. -/
def FrP (w : World) (ys : List (Int × Int)) (e : Ending) (w' : World) : Prop :=
  ((ys = [] ∧ e = .returned (.int .i64 (-1))) ∨ ∃ b : Nat, e = .returned (.int .i64 (b : Int)) ∧ FrTo ys ys.length b) ∧ Below w.heap.size w w'

set_option maxRecDepth 100000 in
set_option maxHeartbeats 4000000 in
theorem front (w : World) (ow : Ow) (p : List Nat) (g n : Nat) (ys : List (Int × Int)) (h : Lv w ow p g n ys) (hn : ys.length ≤ 1099511627776) :
    Calls Try.prog 130 #[.pointer (some ⟨g, 0, none⟩)] w (FrP w ys) := by
  obtain ⟨vl, vx, hc, hr1, hr2⟩ := h
  obtain ⟨A, c, rfl, hnc⟩ := hr1.slice
  have R1 := Lib.hid hr1.reads
  have c1 := hc.get 1 rfl
  have lg := hc.lt
  simp only [Nat.zero_add] at c1
  clear hr1 hr2 hc
  go_enter Try.func130, Try.ntmps130
  go_wp2
  go_loopw [3, 4] (fun best i wr => frRel w ys best i wr) (fun _ i _ => ys.length - (intOf i).toNat)
  case atStart => exact ⟨0, Nat.zero_le _, rfl, .inl ⟨rfl, rfl⟩, Below.refl _ _⟩
  case round =>
    obtain ⟨m, hm, rfl, hb, bd⟩ := hrel
    have c1 := (bd.cell (p := ⟨g, 1, none⟩) lg).trans c1
    by_cases hlt : m < ys.length
    · obtain ⟨x, hx⟩ : ∃ x, ys[m]? = some x := ⟨_, List.getElem?_eq_getElem hlt⟩
      have i0 : (m : Int) < (ys.length : Int) := by omega
      obtain ⟨b8, off8, cap8, hv, -, hcell⟩ := (R1.out.new_ bd).at (by omega)
      simp only [Value.slice.injEq] at hv
      obtain ⟨rfl, -, rfl⟩ := hv
      have e0 := hcell (m * 1 + 0) _ (css_at _ m x.1 (by rw [List.getElem?_map, hx]; rfl) 0 _ rfl (by omega))
      simp only [Nat.mul_one, Nat.add_zero] at e0
      rcases hb with ⟨rfl, rfl⟩ | ⟨b, rfl, hF⟩
      · have one := FrTo.one hx
        clear hcell hx
        go_wp2_with fail
        refine plain_regionN (fun _ => True) [] (by kernel_rfl) ?_
        have hS : (fun _ : World => True) wr.drew := trivial
        refine anyX_takeNL 0 (v := ?_) rfl rfl (by as_aux_lemma => kernel_rfl) (by as_aux_lemma => kernel_rfl) (by as_aux_lemma => kernel_rfl) (by as_aux_lemma => kernel_rfl) (by as_aux_lemma => kernel_rfl) (fun _ _ _ h => h) rfl ?_ hS ?_
        rotate_left
        · intro W' hW'
          obtain - := hW'
          all_goals (go_simp; first | done | rfl)
        intro l' hl
        dsimp only [List.set_cons_succ, List.set_cons_zero] at hl
        subst hl
        refine anyX_takeNL 1 (v := ?_) rfl rfl (by as_aux_lemma => kernel_rfl) (by as_aux_lemma => kernel_rfl) (by as_aux_lemma => kernel_rfl) (by as_aux_lemma => kernel_rfl) (by as_aux_lemma => kernel_rfl) (fun _ _ _ h => h) rfl ?_ hS ?_
        rotate_left
        · intro W' hW'
          obtain - := hW'
          all_goals (go_simp; first | done | rfl)
        intro l' hl
        dsimp only [List.set_cons_succ, List.set_cons_zero] at hl
        subst hl
        refine anyX_takeNL 2 (v := ?_) rfl rfl (by as_aux_lemma => kernel_rfl) (by as_aux_lemma => kernel_rfl) (by as_aux_lemma => kernel_rfl) (by as_aux_lemma => kernel_rfl) (by as_aux_lemma => kernel_rfl) (fun _ _ _ h => h) rfl ?_ hS ?_
        rotate_left
        · intro W' hW'
          obtain - := hW'
          all_goals (go_simp; first | done | rfl)
        intro l' hl
        dsimp only [List.set_cons_succ, List.set_cons_zero] at hl
        subst hl
        refine anyX_takeUL 3 rfl rfl (by as_aux_lemma => kernel_rfl) (by as_aux_lemma => kernel_rfl) (by as_aux_lemma => kernel_rfl) (by as_aux_lemma => kernel_rfl) (by as_aux_lemma => kernel_rfl) (fun _ _ _ h => h) (by rfl) hS ?_
        intro l' hl
        dsimp only [List.set_cons_succ, List.set_cons_zero] at hl
        subst hl
        refine anyX_takeUL 4 rfl rfl (by as_aux_lemma => kernel_rfl) (by as_aux_lemma => kernel_rfl) (by as_aux_lemma => kernel_rfl) (by as_aux_lemma => kernel_rfl) (by as_aux_lemma => kernel_rfl) (fun _ _ _ h => h) (by rfl) hS ?_
        intro l' hl
        dsimp only [List.set_cons_succ, List.set_cons_zero] at hl
        subst hl
        refine anyX_takeUL 5 rfl rfl (by as_aux_lemma => kernel_rfl) (by as_aux_lemma => kernel_rfl) (by as_aux_lemma => kernel_rfl) (by as_aux_lemma => kernel_rfl) (by as_aux_lemma => kernel_rfl) (fun _ _ _ h => h) (by rfl) hS ?_
        intro l' hl
        dsimp only [List.set_cons_succ, List.set_cons_zero] at hl
        subst hl
        refine anyX_takeUL 6 rfl rfl (by as_aux_lemma => kernel_rfl) (by as_aux_lemma => kernel_rfl) (by as_aux_lemma => kernel_rfl) (by as_aux_lemma => kernel_rfl) (by as_aux_lemma => kernel_rfl) (fun _ _ _ h => h) (by rfl) hS ?_
        intro l' hl
        dsimp only [List.set_cons_succ, List.set_cons_zero] at hl
        subst hl
        refine anyX_takeUL 7 rfl rfl (by as_aux_lemma => kernel_rfl) (by as_aux_lemma => kernel_rfl) (by as_aux_lemma => kernel_rfl) (by as_aux_lemma => kernel_rfl) (by as_aux_lemma => kernel_rfl) (fun _ _ _ h => h) (by rfl) hS ?_
        intro l' hl
        dsimp only [List.set_cons_succ, List.set_cons_zero] at hl
        subst hl
        refine anyX_takeUL 8 rfl rfl (by as_aux_lemma => kernel_rfl) (by as_aux_lemma => kernel_rfl) (by as_aux_lemma => kernel_rfl) (by as_aux_lemma => kernel_rfl) (by as_aux_lemma => kernel_rfl) (fun _ _ _ h => h) (by rfl) hS ?_
        intro l' hl
        dsimp only [List.set_cons_succ, List.set_cons_zero] at hl
        subst hl
        refine anyX_takeUL 9 rfl rfl (by as_aux_lemma => kernel_rfl) (by as_aux_lemma => kernel_rfl) (by as_aux_lemma => kernel_rfl) (by as_aux_lemma => kernel_rfl) (by as_aux_lemma => kernel_rfl) (fun _ _ _ h => h) (by rfl) hS ?_
        intro l' hl
        dsimp only [List.set_cons_succ, List.set_cons_zero] at hl
        subst hl
        refine anyX_takeUL 10 rfl rfl (by as_aux_lemma => kernel_rfl) (by as_aux_lemma => kernel_rfl) (by as_aux_lemma => kernel_rfl) (by as_aux_lemma => kernel_rfl) (by as_aux_lemma => kernel_rfl) (fun _ _ _ h => h) (by rfl) hS ?_
        intro l' hl
        dsimp only [List.set_cons_succ, List.set_cons_zero] at hl
        subst hl
        refine anyX_takeUL 11 rfl rfl (by as_aux_lemma => kernel_rfl) (by as_aux_lemma => kernel_rfl) (by as_aux_lemma => kernel_rfl) (by as_aux_lemma => kernel_rfl) (by as_aux_lemma => kernel_rfl) (fun _ _ _ h => h) (by rfl) hS ?_
        intro l' hl
        dsimp only [List.set_cons_succ, List.set_cons_zero] at hl
        subst hl
        refine anyX_takeUL 12 rfl rfl (by as_aux_lemma => kernel_rfl) (by as_aux_lemma => kernel_rfl) (by as_aux_lemma => kernel_rfl) (by as_aux_lemma => kernel_rfl) (by as_aux_lemma => kernel_rfl) (fun _ _ _ h => h) (by rfl) hS ?_
        intro l' hl
        dsimp only [List.set_cons_succ, List.set_cons_zero] at hl
        subst hl
        refine anyX_takeUL 13 rfl rfl (by as_aux_lemma => kernel_rfl) (by as_aux_lemma => kernel_rfl) (by as_aux_lemma => kernel_rfl) (by as_aux_lemma => kernel_rfl) (by as_aux_lemma => kernel_rfl) (fun _ _ _ h => h) (by rfl) hS ?_
        intro l' hl
        dsimp only [List.set_cons_succ, List.set_cons_zero] at hl
        subst hl
        refine anyX_takeUL 14 rfl rfl (by as_aux_lemma => kernel_rfl) (by as_aux_lemma => kernel_rfl) (by as_aux_lemma => kernel_rfl) (by as_aux_lemma => kernel_rfl) (by as_aux_lemma => kernel_rfl) (fun _ _ _ h => h) (by rfl) hS ?_
        intro l' hl
        dsimp only [List.set_cons_succ, List.set_cons_zero] at hl
        subst hl
        refine anyX_takeUL 15 rfl rfl (by as_aux_lemma => kernel_rfl) (by as_aux_lemma => kernel_rfl) (by as_aux_lemma => kernel_rfl) (by as_aux_lemma => kernel_rfl) (by as_aux_lemma => kernel_rfl) (fun _ _ _ h => h) (by rfl) hS ?_
        intro l' hl
        dsimp only [List.set_cons_succ, List.set_cons_zero] at hl
        subst hl
        refine anyX_takeUL 16 rfl rfl (by as_aux_lemma => kernel_rfl) (by as_aux_lemma => kernel_rfl) (by as_aux_lemma => kernel_rfl) (by as_aux_lemma => kernel_rfl) (by as_aux_lemma => kernel_rfl) (fun _ _ _ h => h) (by rfl) hS ?_
        intro l' hl
        dsimp only [List.set_cons_succ, List.set_cons_zero] at hl
        subst hl
        refine anyX_takeUL 17 rfl rfl (by as_aux_lemma => kernel_rfl) (by as_aux_lemma => kernel_rfl) (by as_aux_lemma => kernel_rfl) (by as_aux_lemma => kernel_rfl) (by as_aux_lemma => kernel_rfl) (fun _ _ _ h => h) (by rfl) hS ?_
        intro l' hl
        dsimp only [List.set_cons_succ, List.set_cons_zero] at hl
        subst hl
        refine anyX_takeNL 18 (v := ?_) rfl rfl (by as_aux_lemma => kernel_rfl) (by as_aux_lemma => kernel_rfl) (by as_aux_lemma => kernel_rfl) (by as_aux_lemma => kernel_rfl) (by as_aux_lemma => kernel_rfl) (fun _ _ _ h => h) rfl ?_ hS ?_
        rotate_left
        · intro W' hW'
          obtain - := hW'
          all_goals (go_simp; first | done | rfl)
        intro l' hl
        dsimp only [List.set_cons_succ, List.set_cons_zero] at hl
        subst hl
        refine anyX_done (by kernel_rfl) ?_ _
        refine NoPanic.normal ?_
        clear hS
        go_wp2
        exact ⟨⟨1, by omega, by simp, .inr ⟨0, rfl, one⟩, bd.drew⟩, by simp only [intOf]; omega⟩
      · obtain ⟨hbm, -⟩ := id hF
        obtain ⟨y, hy⟩ : ∃ y, ys[b]? = some y := ⟨_, List.getElem?_eq_getElem (by omega)⟩
        have e1 := hcell (b * 1 + 0) _ (css_at _ b y.1 (by rw [List.getElem?_map, hy]; rfl) 0 _ rfl (by omega))
        simp only [Nat.mul_one, Nat.add_zero] at e1
        have i1 : (b : Int) < (ys.length : Int) := by omega
        have i2 : ¬ (b : Int) < 0 := by omega
        have i3 : decide ((b : Int) < 0) = false := decide_eq_false (by omega)
        clear hcell
        by_cases hgt : y.1 < x.1
        · have nx := hF.next hx hy hgt
          have Nx := Lib.hid nx
          have j0 : decide (y.1 < x.1) = true := decide_eq_true hgt
          clear hx hy hF nx
          go_wp2_with fail
          refine plain_regionN (fun W' => W'.cell? ⟨g, 1, none⟩ = some (.slice (some ⟨b8, off8, none⟩) ys.length c) ∧ W'.cell? ⟨b8, off8 + m, none⟩ = some (.int .i64 x.1) ∧ W'.cell? ⟨b8, off8 + b, none⟩ = some (.int .i64 y.1)) [] (by kernel_rfl) ?_
          have hS : (fun W' : World => W'.cell? ⟨g, 1, none⟩ = some (.slice (some ⟨b8, off8, none⟩) ys.length c) ∧ W'.cell? ⟨b8, off8 + m, none⟩ = some (.int .i64 x.1) ∧ W'.cell? ⟨b8, off8 + b, none⟩ = some (.int .i64 y.1)) wr.drew := ⟨c1, e0, e1⟩
          refine anyX_takeNL 0 (v := ?_) rfl rfl (by as_aux_lemma => kernel_rfl) (by as_aux_lemma => kernel_rfl) (by as_aux_lemma => kernel_rfl) (by as_aux_lemma => kernel_rfl) (by as_aux_lemma => kernel_rfl) (fun _ _ _ h => h) rfl ?_ hS ?_
          rotate_left
          · intro W' hW'
            obtain ⟨s0, s1, s2⟩ := hW'
            all_goals (go_simp; first | done | rfl)
          intro l' hl
          dsimp only [List.set_cons_succ, List.set_cons_zero] at hl
          subst hl
          refine anyX_takeNL 1 (v := ?_) rfl rfl (by as_aux_lemma => kernel_rfl) (by as_aux_lemma => kernel_rfl) (by as_aux_lemma => kernel_rfl) (by as_aux_lemma => kernel_rfl) (by as_aux_lemma => kernel_rfl) (fun _ _ _ h => h) rfl ?_ hS ?_
          rotate_left
          · intro W' hW'
            obtain ⟨s0, s1, s2⟩ := hW'
            all_goals (go_simp; first | done | rfl)
          intro l' hl
          dsimp only [List.set_cons_succ, List.set_cons_zero] at hl
          subst hl
          refine anyX_takeNL 2 (v := ?_) rfl rfl (by as_aux_lemma => kernel_rfl) (by as_aux_lemma => kernel_rfl) (by as_aux_lemma => kernel_rfl) (by as_aux_lemma => kernel_rfl) (by as_aux_lemma => kernel_rfl) (fun _ _ _ h => h) rfl ?_ hS ?_
          rotate_left
          · intro W' hW'
            obtain ⟨s0, s1, s2⟩ := hW'
            all_goals (go_simp; first | done | rfl)
          intro l' hl
          dsimp only [List.set_cons_succ, List.set_cons_zero] at hl
          subst hl
          refine anyX_takeWL 3 (v := ?_) rfl rfl (by as_aux_lemma => kernel_rfl) (by as_aux_lemma => kernel_rfl) (by as_aux_lemma => kernel_rfl) (by as_aux_lemma => kernel_rfl) (by as_aux_lemma => kernel_rfl) (fun _ _ _ h => h) (by rfl) ?_ hS ?_
          rotate_left
          · intro W' hW'
            obtain ⟨s0, s1, s2⟩ := hW'
            all_goals (go_simp; first | done | rfl)
          intro l' hl
          dsimp only [List.set_cons_succ, List.set_cons_zero] at hl
          subst hl
          refine anyX_takeWL 4 (v := ?_) rfl rfl (by as_aux_lemma => kernel_rfl) (by as_aux_lemma => kernel_rfl) (by as_aux_lemma => kernel_rfl) (by as_aux_lemma => kernel_rfl) (by as_aux_lemma => kernel_rfl) (fun _ _ _ h => h) (by rfl) ?_ hS ?_
          rotate_left
          · intro W' hW'
            obtain ⟨s0, s1, s2⟩ := hW'
            all_goals (go_simp; first | done | rfl)
          intro l' hl
          dsimp only [List.set_cons_succ, List.set_cons_zero] at hl
          subst hl
          refine anyX_takeWL 5 (v := ?_) rfl rfl (by as_aux_lemma => kernel_rfl) (by as_aux_lemma => kernel_rfl) (by as_aux_lemma => kernel_rfl) (by as_aux_lemma => kernel_rfl) (by as_aux_lemma => kernel_rfl) (fun _ _ _ h => h) (by rfl) ?_ hS ?_
          rotate_left
          · intro W' hW'
            obtain ⟨s0, s1, s2⟩ := hW'
            all_goals (go_simp; first | done | rfl)
          intro l' hl
          dsimp only [List.set_cons_succ, List.set_cons_zero] at hl
          subst hl
          refine anyX_takeWL 6 (v := ?_) rfl rfl (by as_aux_lemma => kernel_rfl) (by as_aux_lemma => kernel_rfl) (by as_aux_lemma => kernel_rfl) (by as_aux_lemma => kernel_rfl) (by as_aux_lemma => kernel_rfl) (fun _ _ _ h => h) (by rfl) ?_ hS ?_
          rotate_left
          · intro W' hW'
            obtain ⟨s0, s1, s2⟩ := hW'
            all_goals (go_simp; first | done | rfl)
          intro l' hl
          dsimp only [List.set_cons_succ, List.set_cons_zero] at hl
          subst hl
          refine anyX_takeWL 7 (v := ?_) rfl rfl (by as_aux_lemma => kernel_rfl) (by as_aux_lemma => kernel_rfl) (by as_aux_lemma => kernel_rfl) (by as_aux_lemma => kernel_rfl) (by as_aux_lemma => kernel_rfl) (fun _ _ _ h => h) (by rfl) ?_ hS ?_
          rotate_left
          · intro W' hW'
            obtain ⟨s0, s1, s2⟩ := hW'
            all_goals (go_simp; first | done | rfl)
          intro l' hl
          dsimp only [List.set_cons_succ, List.set_cons_zero] at hl
          subst hl
          refine anyX_takeWL 8 (v := ?_) rfl rfl (by as_aux_lemma => kernel_rfl) (by as_aux_lemma => kernel_rfl) (by as_aux_lemma => kernel_rfl) (by as_aux_lemma => kernel_rfl) (by as_aux_lemma => kernel_rfl) (fun _ _ _ h => h) (by rfl) ?_ hS ?_
          rotate_left
          · intro W' hW'
            obtain ⟨s0, s1, s2⟩ := hW'
            all_goals (go_simp; first | done | rfl)
          intro l' hl
          dsimp only [List.set_cons_succ, List.set_cons_zero] at hl
          subst hl
          refine anyX_takeWL 9 (v := ?_) rfl rfl (by as_aux_lemma => kernel_rfl) (by as_aux_lemma => kernel_rfl) (by as_aux_lemma => kernel_rfl) (by as_aux_lemma => kernel_rfl) (by as_aux_lemma => kernel_rfl) (fun _ _ _ h => h) (by rfl) ?_ hS ?_
          rotate_left
          · intro W' hW'
            obtain ⟨s0, s1, s2⟩ := hW'
            all_goals (go_simp; first | done | rfl)
          intro l' hl
          dsimp only [List.set_cons_succ, List.set_cons_zero] at hl
          subst hl
          refine anyX_takeWL 10 (v := ?_) rfl rfl (by as_aux_lemma => kernel_rfl) (by as_aux_lemma => kernel_rfl) (by as_aux_lemma => kernel_rfl) (by as_aux_lemma => kernel_rfl) (by as_aux_lemma => kernel_rfl) (fun _ _ _ h => h) (by rfl) ?_ hS ?_
          rotate_left
          · intro W' hW'
            obtain ⟨s0, s1, s2⟩ := hW'
            all_goals (go_simp; first | done | rfl)
          intro l' hl
          dsimp only [List.set_cons_succ, List.set_cons_zero] at hl
          subst hl
          refine anyX_takeWL 11 (v := ?_) rfl rfl (by as_aux_lemma => kernel_rfl) (by as_aux_lemma => kernel_rfl) (by as_aux_lemma => kernel_rfl) (by as_aux_lemma => kernel_rfl) (by as_aux_lemma => kernel_rfl) (fun _ _ _ h => h) (by rfl) ?_ hS ?_
          rotate_left
          · intro W' hW'
            obtain ⟨s0, s1, s2⟩ := hW'
            all_goals (go_simp; first | done | rfl)
          intro l' hl
          dsimp only [List.set_cons_succ, List.set_cons_zero] at hl
          subst hl
          refine anyX_takeWL 12 (v := ?_) rfl rfl (by as_aux_lemma => kernel_rfl) (by as_aux_lemma => kernel_rfl) (by as_aux_lemma => kernel_rfl) (by as_aux_lemma => kernel_rfl) (by as_aux_lemma => kernel_rfl) (fun _ _ _ h => h) (by rfl) ?_ hS ?_
          rotate_left
          · intro W' hW'
            obtain ⟨s0, s1, s2⟩ := hW'
            all_goals (go_simp; first | done | rfl)
          intro l' hl
          dsimp only [List.set_cons_succ, List.set_cons_zero] at hl
          subst hl
          refine anyX_takeWL 13 (v := ?_) rfl rfl (by as_aux_lemma => kernel_rfl) (by as_aux_lemma => kernel_rfl) (by as_aux_lemma => kernel_rfl) (by as_aux_lemma => kernel_rfl) (by as_aux_lemma => kernel_rfl) (fun _ _ _ h => h) (by rfl) ?_ hS ?_
          rotate_left
          · intro W' hW'
            obtain ⟨s0, s1, s2⟩ := hW'
            all_goals (go_simp; first | done | rfl)
          intro l' hl
          dsimp only [List.set_cons_succ, List.set_cons_zero] at hl
          subst hl
          refine anyX_takeWL 14 (v := ?_) rfl rfl (by as_aux_lemma => kernel_rfl) (by as_aux_lemma => kernel_rfl) (by as_aux_lemma => kernel_rfl) (by as_aux_lemma => kernel_rfl) (by as_aux_lemma => kernel_rfl) (fun _ _ _ h => h) (by rfl) ?_ hS ?_
          rotate_left
          · intro W' hW'
            obtain ⟨s0, s1, s2⟩ := hW'
            all_goals (go_simp; first | done | rfl)
          intro l' hl
          dsimp only [List.set_cons_succ, List.set_cons_zero] at hl
          subst hl
          refine anyX_takeWL 15 (v := ?_) rfl rfl (by as_aux_lemma => kernel_rfl) (by as_aux_lemma => kernel_rfl) (by as_aux_lemma => kernel_rfl) (by as_aux_lemma => kernel_rfl) (by as_aux_lemma => kernel_rfl) (fun _ _ _ h => h) (by rfl) ?_ hS ?_
          rotate_left
          · intro W' hW'
            obtain ⟨s0, s1, s2⟩ := hW'
            all_goals (go_simp; first | done | rfl)
          intro l' hl
          dsimp only [List.set_cons_succ, List.set_cons_zero] at hl
          subst hl
          refine anyX_takeWL 16 (v := ?_) rfl rfl (by as_aux_lemma => kernel_rfl) (by as_aux_lemma => kernel_rfl) (by as_aux_lemma => kernel_rfl) (by as_aux_lemma => kernel_rfl) (by as_aux_lemma => kernel_rfl) (fun _ _ _ h => h) (by rfl) ?_ hS ?_
          rotate_left
          · intro W' hW'
            obtain ⟨s0, s1, s2⟩ := hW'
            all_goals (go_simp; first | done | rfl)
          intro l' hl
          dsimp only [List.set_cons_succ, List.set_cons_zero] at hl
          subst hl
          refine anyX_takeWL 17 (v := ?_) rfl rfl (by as_aux_lemma => kernel_rfl) (by as_aux_lemma => kernel_rfl) (by as_aux_lemma => kernel_rfl) (by as_aux_lemma => kernel_rfl) (by as_aux_lemma => kernel_rfl) (fun _ _ _ h => h) (by rfl) ?_ hS ?_
          rotate_left
          · intro W' hW'
            obtain ⟨s0, s1, s2⟩ := hW'
            all_goals (go_simp; first | done | rfl)
          intro l' hl
          dsimp only [List.set_cons_succ, List.set_cons_zero] at hl
          subst hl
          refine anyX_takeNL 18 (v := ?_) rfl rfl (by as_aux_lemma => kernel_rfl) (by as_aux_lemma => kernel_rfl) (by as_aux_lemma => kernel_rfl) (by as_aux_lemma => kernel_rfl) (by as_aux_lemma => kernel_rfl) (fun _ _ _ h => h) rfl ?_ hS ?_
          rotate_left
          · intro W' hW'
            obtain ⟨s0, s1, s2⟩ := hW'
            all_goals (go_simp; first | done | rfl)
          intro l' hl
          dsimp only [List.set_cons_succ, List.set_cons_zero] at hl
          subst hl
          refine anyX_done (by kernel_rfl) ?_ _
          refine NoPanic.normal ?_
          clear hS
          go_wp2
          exact ⟨⟨m + 1, by omega, by go_num, .inr ⟨m, rfl, Nx.out⟩, bd.drew⟩, by simp only [intOf]; omega⟩
        · have nx := hF.same hx hy (by omega)
          have Nx := Lib.hid nx
          have j0 : decide (y.1 < x.1) = false := decide_eq_false hgt
          clear hx hy hF nx
          go_wp2_with fail
          refine plain_regionN (fun W' => W'.cell? ⟨g, 1, none⟩ = some (.slice (some ⟨b8, off8, none⟩) ys.length c) ∧ W'.cell? ⟨b8, off8 + m, none⟩ = some (.int .i64 x.1) ∧ W'.cell? ⟨b8, off8 + b, none⟩ = some (.int .i64 y.1)) [] (by kernel_rfl) ?_
          have hS : (fun W' : World => W'.cell? ⟨g, 1, none⟩ = some (.slice (some ⟨b8, off8, none⟩) ys.length c) ∧ W'.cell? ⟨b8, off8 + m, none⟩ = some (.int .i64 x.1) ∧ W'.cell? ⟨b8, off8 + b, none⟩ = some (.int .i64 y.1)) wr.drew := ⟨c1, e0, e1⟩
          refine anyX_takeNL 0 (v := ?_) rfl rfl (by as_aux_lemma => kernel_rfl) (by as_aux_lemma => kernel_rfl) (by as_aux_lemma => kernel_rfl) (by as_aux_lemma => kernel_rfl) (by as_aux_lemma => kernel_rfl) (fun _ _ _ h => h) rfl ?_ hS ?_
          rotate_left
          · intro W' hW'
            obtain ⟨s0, s1, s2⟩ := hW'
            all_goals (go_simp; first | done | rfl)
          intro l' hl
          dsimp only [List.set_cons_succ, List.set_cons_zero] at hl
          subst hl
          refine anyX_takeNL 1 (v := ?_) rfl rfl (by as_aux_lemma => kernel_rfl) (by as_aux_lemma => kernel_rfl) (by as_aux_lemma => kernel_rfl) (by as_aux_lemma => kernel_rfl) (by as_aux_lemma => kernel_rfl) (fun _ _ _ h => h) rfl ?_ hS ?_
          rotate_left
          · intro W' hW'
            obtain ⟨s0, s1, s2⟩ := hW'
            all_goals (go_simp; first | done | rfl)
          intro l' hl
          dsimp only [List.set_cons_succ, List.set_cons_zero] at hl
          subst hl
          refine anyX_takeNL 2 (v := ?_) rfl rfl (by as_aux_lemma => kernel_rfl) (by as_aux_lemma => kernel_rfl) (by as_aux_lemma => kernel_rfl) (by as_aux_lemma => kernel_rfl) (by as_aux_lemma => kernel_rfl) (fun _ _ _ h => h) rfl ?_ hS ?_
          rotate_left
          · intro W' hW'
            obtain ⟨s0, s1, s2⟩ := hW'
            all_goals (go_simp; first | done | rfl)
          intro l' hl
          dsimp only [List.set_cons_succ, List.set_cons_zero] at hl
          subst hl
          refine anyX_takeWL 3 (v := ?_) rfl rfl (by as_aux_lemma => kernel_rfl) (by as_aux_lemma => kernel_rfl) (by as_aux_lemma => kernel_rfl) (by as_aux_lemma => kernel_rfl) (by as_aux_lemma => kernel_rfl) (fun _ _ _ h => h) (by rfl) ?_ hS ?_
          rotate_left
          · intro W' hW'
            obtain ⟨s0, s1, s2⟩ := hW'
            all_goals (go_simp; first | done | rfl)
          intro l' hl
          dsimp only [List.set_cons_succ, List.set_cons_zero] at hl
          subst hl
          refine anyX_takeWL 4 (v := ?_) rfl rfl (by as_aux_lemma => kernel_rfl) (by as_aux_lemma => kernel_rfl) (by as_aux_lemma => kernel_rfl) (by as_aux_lemma => kernel_rfl) (by as_aux_lemma => kernel_rfl) (fun _ _ _ h => h) (by rfl) ?_ hS ?_
          rotate_left
          · intro W' hW'
            obtain ⟨s0, s1, s2⟩ := hW'
            all_goals (go_simp; first | done | rfl)
          intro l' hl
          dsimp only [List.set_cons_succ, List.set_cons_zero] at hl
          subst hl
          refine anyX_takeWL 5 (v := ?_) rfl rfl (by as_aux_lemma => kernel_rfl) (by as_aux_lemma => kernel_rfl) (by as_aux_lemma => kernel_rfl) (by as_aux_lemma => kernel_rfl) (by as_aux_lemma => kernel_rfl) (fun _ _ _ h => h) (by rfl) ?_ hS ?_
          rotate_left
          · intro W' hW'
            obtain ⟨s0, s1, s2⟩ := hW'
            all_goals (go_simp; first | done | rfl)
          intro l' hl
          dsimp only [List.set_cons_succ, List.set_cons_zero] at hl
          subst hl
          refine anyX_takeWL 6 (v := ?_) rfl rfl (by as_aux_lemma => kernel_rfl) (by as_aux_lemma => kernel_rfl) (by as_aux_lemma => kernel_rfl) (by as_aux_lemma => kernel_rfl) (by as_aux_lemma => kernel_rfl) (fun _ _ _ h => h) (by rfl) ?_ hS ?_
          rotate_left
          · intro W' hW'
            obtain ⟨s0, s1, s2⟩ := hW'
            all_goals (go_simp; first | done | rfl)
          intro l' hl
          dsimp only [List.set_cons_succ, List.set_cons_zero] at hl
          subst hl
          refine anyX_takeWL 7 (v := ?_) rfl rfl (by as_aux_lemma => kernel_rfl) (by as_aux_lemma => kernel_rfl) (by as_aux_lemma => kernel_rfl) (by as_aux_lemma => kernel_rfl) (by as_aux_lemma => kernel_rfl) (fun _ _ _ h => h) (by rfl) ?_ hS ?_
          rotate_left
          · intro W' hW'
            obtain ⟨s0, s1, s2⟩ := hW'
            all_goals (go_simp; first | done | rfl)
          intro l' hl
          dsimp only [List.set_cons_succ, List.set_cons_zero] at hl
          subst hl
          refine anyX_takeWL 8 (v := ?_) rfl rfl (by as_aux_lemma => kernel_rfl) (by as_aux_lemma => kernel_rfl) (by as_aux_lemma => kernel_rfl) (by as_aux_lemma => kernel_rfl) (by as_aux_lemma => kernel_rfl) (fun _ _ _ h => h) (by rfl) ?_ hS ?_
          rotate_left
          · intro W' hW'
            obtain ⟨s0, s1, s2⟩ := hW'
            all_goals (go_simp; first | done | rfl)
          intro l' hl
          dsimp only [List.set_cons_succ, List.set_cons_zero] at hl
          subst hl
          refine anyX_takeWL 9 (v := ?_) rfl rfl (by as_aux_lemma => kernel_rfl) (by as_aux_lemma => kernel_rfl) (by as_aux_lemma => kernel_rfl) (by as_aux_lemma => kernel_rfl) (by as_aux_lemma => kernel_rfl) (fun _ _ _ h => h) (by rfl) ?_ hS ?_
          rotate_left
          · intro W' hW'
            obtain ⟨s0, s1, s2⟩ := hW'
            all_goals (go_simp; first | done | rfl)
          intro l' hl
          dsimp only [List.set_cons_succ, List.set_cons_zero] at hl
          subst hl
          refine anyX_takeWL 10 (v := ?_) rfl rfl (by as_aux_lemma => kernel_rfl) (by as_aux_lemma => kernel_rfl) (by as_aux_lemma => kernel_rfl) (by as_aux_lemma => kernel_rfl) (by as_aux_lemma => kernel_rfl) (fun _ _ _ h => h) (by rfl) ?_ hS ?_
          rotate_left
          · intro W' hW'
            obtain ⟨s0, s1, s2⟩ := hW'
            all_goals (go_simp; first | done | rfl)
          intro l' hl
          dsimp only [List.set_cons_succ, List.set_cons_zero] at hl
          subst hl
          refine anyX_takeWL 11 (v := ?_) rfl rfl (by as_aux_lemma => kernel_rfl) (by as_aux_lemma => kernel_rfl) (by as_aux_lemma => kernel_rfl) (by as_aux_lemma => kernel_rfl) (by as_aux_lemma => kernel_rfl) (fun _ _ _ h => h) (by rfl) ?_ hS ?_
          rotate_left
          · intro W' hW'
            obtain ⟨s0, s1, s2⟩ := hW'
            all_goals (go_simp; first | done | rfl)
          intro l' hl
          dsimp only [List.set_cons_succ, List.set_cons_zero] at hl
          subst hl
          refine anyX_takeWL 12 (v := ?_) rfl rfl (by as_aux_lemma => kernel_rfl) (by as_aux_lemma => kernel_rfl) (by as_aux_lemma => kernel_rfl) (by as_aux_lemma => kernel_rfl) (by as_aux_lemma => kernel_rfl) (fun _ _ _ h => h) (by rfl) ?_ hS ?_
          rotate_left
          · intro W' hW'
            obtain ⟨s0, s1, s2⟩ := hW'
            all_goals (go_simp; first | done | rfl)
          intro l' hl
          dsimp only [List.set_cons_succ, List.set_cons_zero] at hl
          subst hl
          refine anyX_takeWL 13 (v := ?_) rfl rfl (by as_aux_lemma => kernel_rfl) (by as_aux_lemma => kernel_rfl) (by as_aux_lemma => kernel_rfl) (by as_aux_lemma => kernel_rfl) (by as_aux_lemma => kernel_rfl) (fun _ _ _ h => h) (by rfl) ?_ hS ?_
          rotate_left
          · intro W' hW'
            obtain ⟨s0, s1, s2⟩ := hW'
            all_goals (go_simp; first | done | rfl)
          intro l' hl
          dsimp only [List.set_cons_succ, List.set_cons_zero] at hl
          subst hl
          refine anyX_takeWL 14 (v := ?_) rfl rfl (by as_aux_lemma => kernel_rfl) (by as_aux_lemma => kernel_rfl) (by as_aux_lemma => kernel_rfl) (by as_aux_lemma => kernel_rfl) (by as_aux_lemma => kernel_rfl) (fun _ _ _ h => h) (by rfl) ?_ hS ?_
          rotate_left
          · intro W' hW'
            obtain ⟨s0, s1, s2⟩ := hW'
            all_goals (go_simp; first | done | rfl)
          intro l' hl
          dsimp only [List.set_cons_succ, List.set_cons_zero] at hl
          subst hl
          refine anyX_takeWL 15 (v := ?_) rfl rfl (by as_aux_lemma => kernel_rfl) (by as_aux_lemma => kernel_rfl) (by as_aux_lemma => kernel_rfl) (by as_aux_lemma => kernel_rfl) (by as_aux_lemma => kernel_rfl) (fun _ _ _ h => h) (by rfl) ?_ hS ?_
          rotate_left
          · intro W' hW'
            obtain ⟨s0, s1, s2⟩ := hW'
            all_goals (go_simp; first | done | rfl)
          intro l' hl
          dsimp only [List.set_cons_succ, List.set_cons_zero] at hl
          subst hl
          refine anyX_takeWL 16 (v := ?_) rfl rfl (by as_aux_lemma => kernel_rfl) (by as_aux_lemma => kernel_rfl) (by as_aux_lemma => kernel_rfl) (by as_aux_lemma => kernel_rfl) (by as_aux_lemma => kernel_rfl) (fun _ _ _ h => h) (by rfl) ?_ hS ?_
          rotate_left
          · intro W' hW'
            obtain ⟨s0, s1, s2⟩ := hW'
            all_goals (go_simp; first | done | rfl)
          intro l' hl
          dsimp only [List.set_cons_succ, List.set_cons_zero] at hl
          subst hl
          refine anyX_takeWL 17 (v := ?_) rfl rfl (by as_aux_lemma => kernel_rfl) (by as_aux_lemma => kernel_rfl) (by as_aux_lemma => kernel_rfl) (by as_aux_lemma => kernel_rfl) (by as_aux_lemma => kernel_rfl) (fun _ _ _ h => h) (by rfl) ?_ hS ?_
          rotate_left
          · intro W' hW'
            obtain ⟨s0, s1, s2⟩ := hW'
            all_goals (go_simp; first | done | rfl)
          intro l' hl
          dsimp only [List.set_cons_succ, List.set_cons_zero] at hl
          subst hl
          refine anyX_takeNL 18 (v := ?_) rfl rfl (by as_aux_lemma => kernel_rfl) (by as_aux_lemma => kernel_rfl) (by as_aux_lemma => kernel_rfl) (by as_aux_lemma => kernel_rfl) (by as_aux_lemma => kernel_rfl) (fun _ _ _ h => h) rfl ?_ hS ?_
          rotate_left
          · intro W' hW'
            obtain ⟨s0, s1, s2⟩ := hW'
            all_goals (go_simp; first | done | rfl)
          intro l' hl
          dsimp only [List.set_cons_succ, List.set_cons_zero] at hl
          subst hl
          refine anyX_done (by kernel_rfl) ?_ _
          refine NoPanic.normal ?_
          clear hS
          go_wp2
          exact ⟨⟨m + 1, by omega, by go_num, .inr ⟨b, rfl, Nx.out⟩, bd.drew⟩, by simp only [intOf]; omega⟩
    · obtain rfl : m = ys.length := by omega
      go_wp2
      go_ret
      refine ⟨?_, bd⟩
      rcases hb with ⟨h0, rfl⟩ | ⟨b, rfl, hF⟩
      · exact .inl ⟨List.length_eq_zero_iff.1 h0, rfl⟩
      · exact .inr ⟨b, rfl, hF⟩

end RL
end Go.Proofs.Ytppikbdeopagkaa
