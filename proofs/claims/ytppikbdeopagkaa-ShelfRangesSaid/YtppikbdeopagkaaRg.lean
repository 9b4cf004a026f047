/-
  LAW 1: ShelfRanges: what is handed out is what was there: the walk.
-/
import Derived.Test.YtppikbdeopagkaaRgP
import Derived.Test.YtppikbdeopagkaaSR
import Derived.Test.YtppikbdeopagkaaEIntP
import Derived.Test.YtppikbdeopagkaaBox
import Derived.Test.YtppikbdeopagkaaCalc
import Derived.Test.YtppikbdeopagkaaFn
import Derived.Test.YtppikbdeopagkaaMore
import Derived.Shelf.Abstract
import Derived.LoopTactic
import Derived.LoopN
import Derived.Deep.LoopGhost
import Derived.Deep.CutRange
import Derived.Deep.CutBlock
import Derived.Deep.DeepCutAuto
set_option linter.unusedVariables false
set_option linter.unusedSimpArgs false
namespace Go.Proofs.Ytppikbdeopagkaa
open Go Go.RowKit
attribute [local go_sem] Oper.semAt_some
namespace RG
open SH

/-- The boxes that stay. -/
def rsB (g2 g3 g4 g7 ca cb cc gq gt gL : Nat) (V : Value) (st : Int) (W : World) (OW : Ow) : Prop :=
  Cells W OW [1, 2] g2 0 [V] ∧ Cells W OW [1, 3] g3 0 [.int .i64 st] ∧ Cells W OW [1, 7] g4 0 [.bool false] ∧ Cells W OW [1, 4] g7 0 [.pointer (some ⟨gL, 0, none⟩)] ∧ Cells W OW [1, 8, 0] ca 0 [.pointer (some ⟨gq, 0, none⟩)] ∧ Cells W OW [1, 8, 1] cb 0 [.pointer (some ⟨gt, 0, none⟩)] ∧ Cells W OW [1, 8, 2] cc 0 [.pointer (some ⟨gL, 0, none⟩)]
section
variable {g2 g3 g4 g7 ca cb cc gq gt gL : Nat} {V : Value} {st : Int} {W W' : World} {OW OW' : Ow}
theorem rsB.keep (h : rsB g2 g3 g4 g7 ca cb cc gq gt gL V st W OW) {q : List Nat} (t : Turn q W OW W' OW') (hq : ∀ s ∈ ([[1, 2], [1, 3], [1, 7], [1, 4], [1, 8, 0], [1, 8, 1], [1, 8, 2]] : List (List Nat)), ¬ q <+: s) : rsB g2 g3 g4 g7 ca cb cc gq gt gL V st W' OW' := by
  obtain ⟨h1, h2, h3, h4, h5, h6, h7⟩ := h
  exact ⟨h1.keep t (hq _ (by simp)), h2.keep t (hq _ (by simp)), h3.keep t (hq _ (by simp)), h4.keep t (hq _ (by simp)), h5.keep t (hq _ (by simp)), h6.keep t (hq _ (by simp)), h7.keep t (hq _ (by simp))⟩
theorem rsB.new_ (h : rsB g2 g3 g4 g7 ca cb cc gq gt gL V st W OW) (t : New W OW W' OW') : rsB g2 g3 g4 g7 ca cb cc gq gt gL V st W' OW' := by
  obtain ⟨h1, h2, h3, h4, h5, h6, h7⟩ := h
  exact ⟨h1.new_ t, h2.new_ t, h3.new_ t, h4.new_ t, h5.new_ t, h6.new_ t, h7.new_ t⟩
end
def Qn (W : World) (OW : Ow) (p : List Nat) (g n : Nat) : Prop := ∃ ys : List Int, ys.length = n ∧ EInt.Q W OW p g 0 ys
def Tn (W : World) (OW : Ow) (p : List Nat) (g M : Nat) : Prop := ∃ rows : List (Int × Int), TII.Rise rows ∧ rows.length ≤ M ∧ TII.TbP W OW p g 0 rows
def Ln (W : World) (OW : Ow) (p : List Nat) (g M : Nat) : Prop := ∃ qs : List (List Int), Five qs M ∧ EInt.L W OW p g 0 qs
section
variable {W W' : World} {OW OW' : Ow} {p q : List Nat} {g n : Nat}
theorem Qn.keep (h : Qn W OW p g n) (t : Turn q W OW W' OW') (h0 : ¬ q <+: p ++ [0]) (h1 : ¬ q <+: p ++ [1]) : Qn W' OW' p g n := by
  obtain ⟨ys, h2, h3⟩ := h
  exact ⟨ys, h2, h3.keep t h0 h1⟩
theorem Qn.new_ (h : Qn W OW p g n) (t : New W OW W' OW') : Qn W' OW' p g n := by
  obtain ⟨ys, h2, h3⟩ := h
  exact ⟨ys, h2, h3.new_ t⟩
theorem Tn.keep (h : Tn W OW p g n) (t : Turn q W OW W' OW') (h0 : ¬ q <+: p ++ [0]) (h1 : ¬ q <+: p ++ [1]) : Tn W' OW' p g n := by
  obtain ⟨ys, h2, h3, h4⟩ := h
  exact ⟨ys, h2, h3, h4.keep t h0 h1⟩
theorem Tn.new_ (h : Tn W OW p g n) (t : New W OW W' OW') : Tn W' OW' p g n := by
  obtain ⟨ys, h2, h3, h4⟩ := h
  exact ⟨ys, h2, h3, h4.new_ t⟩
theorem Ln.keep (h : Ln W OW p g n) (t : Turn q W OW W' OW') (h0 : ¬ q <+: p ++ [0]) (h1 : ∀ i j, ¬ q <+: p ++ [1, i, j]) : Ln W' OW' p g n := by
  obtain ⟨ys, h2, h3⟩ := h
  exact ⟨ys, h2, h3.keep t h0 h1⟩
theorem Ln.new_ (h : Ln W OW p g n) (t : New W OW W' OW') : Ln W' OW' p g n := by
  obtain ⟨ys, h2, h3⟩ := h
  exact ⟨ys, h2, h3.new_ t⟩
theorem Qn.take (h : Qn W OW p g n) (h0 : 0 < n) (hn : n ≤ 100) : Calls Try.prog 50 #[.pointer (some ⟨g, 0, none⟩)] W fun e w' => ∃ v ow', e = .returned v ∧ Qn w' ow' p g (n - 1) ∧ Turn p W OW w' ow' := by
  obtain ⟨ys, rfl, h3⟩ := h
  cases ys with
  | nil => simp at h0
  | cons y ys =>
    simp only [List.length_cons] at hn
    refine (EInt.q_take_some W OW p g 0 y ys h3 (by omega)).mono ?_
    rintro e w' ⟨ow', rfl, h4, h5⟩
    exact ⟨_, ow', rfl, ⟨ys, rfl, h4⟩, h5⟩
theorem Qn.put (h : Qn W OW p g (n - 1)) (h0 : 0 < n) (hn : n ≤ 100) (x : Int) : Calls Try.prog 47 #[.pointer (some ⟨g, 0, none⟩), .int .i64 x] W fun e w' => ∃ v ow', e = .returned v ∧ Qn w' ow' p g n ∧ Turn p W OW w' ow' := by
  obtain ⟨ys, hl, h3⟩ := h
  refine (EInt.q_put W OW p g 0 ys x h3 (by omega)).mono ?_
  rintro e w' ⟨ow', rfl, h4, h5⟩
  exact ⟨_, ow', rfl, ⟨ys ++ [x], by rw [List.length_append]; simp; omega, h4⟩, h5⟩
theorem Tn.del (h : Tn W OW p g n) (hn : n ≤ 1000) (k : Int) : Calls Try.prog 51 #[.pointer (some ⟨g, 0, none⟩), .int .i64 k] W fun e w' => ∃ v ow', e = .returned v ∧ Tn w' ow' p g n ∧ Turn p W OW w' ow' := by
  obtain ⟨rows, hr, hl, h3⟩ := h
  refine (TII.delQ W OW p g 0 rows k h3 hr (by omega)).mono ?_
  rintro e w' ⟨ow', rfl, h4, h5⟩
  exact ⟨_, ow', rfl, ⟨_, TII.delT_rise rows hr k, by have := TII.delT_length rows k; omega, h4⟩, h5⟩
theorem Tn.set (h : Tn W OW p g n) (hn : n ≤ 1000) (k x : Int) : Calls Try.prog 34 #[.pointer (some ⟨g, 0, none⟩), .int .i64 k, .int .i64 x] W fun e w' => ∃ v ow', e = .returned v ∧ Tn w' ow' p g (n + 1) ∧ Turn p W OW w' ow' := by
  obtain ⟨rows, hr, hl, h3⟩ := h
  refine (TII.setQ W OW p g 0 rows k x h3 hr (by omega)).mono ?_
  rintro e w' ⟨ow', rfl, h4, h5⟩
  refine ⟨_, ow', rfl, ⟨_, TII.setT_rise rows hr k x, ?_, h4⟩, h5⟩
  have := TII.setT_length rows hr k x
  split at this <;> omega
theorem Ln.take (h : Ln W OW p g n) (hn : n ≤ 1000) : Calls Try.prog 67 #[.pointer (some ⟨g, 0, none⟩)] W fun e w' => ∃ v ow', e = .returned v ∧ Ln w' ow' p g n ∧ Turn p W OW w' ow' := by
  obtain ⟨qs, h5, h3⟩ := h
  obtain ⟨v, qs', h6, hc⟩ := takeAny h5 (by omega)
  refine (hc W OW p g h3).mono ?_
  rintro e w' ⟨ow', rfl, h4, h5⟩
  exact ⟨_, ow', rfl, ⟨qs', h6, h4⟩, h5⟩
theorem Ln.put (h : Ln W OW p g n) (hn : n ≤ 1000) : Calls Try.prog 66 #[.pointer (some ⟨g, 0, none⟩), .int .i64 4, .int .i64 9] W fun e w' => ∃ v ow', e = .returned v ∧ Ln w' ow' p g (n + 1) ∧ Turn p W OW w' ow' := by
  obtain ⟨qs, h5, h3⟩ := h
  obtain ⟨qs', h6, hc⟩ := put4 h5 (by omega)
  refine (hc W OW p g h3).mono ?_
  rintro e w' ⟨ow', rfl, h4, h5⟩
  exact ⟨_, ow', rfl, ⟨qs', h6, h4⟩, h5⟩
end
theorem _root_.Go.Proofs.Ytppikbdeopagkaa.Marks.keep {ok : List Nat → Prop} {q : List Nat} {W W' : World} {OW OW' : Ow} {ds : List Deferred} (h : Marks ok W OW ds) (t : Turn q W OW W' OW') (hq : ∀ x, ok x → ¬ q <+: x) : Marks ok W' OW' ds := h.turn hq t
def okR (m : Nat) (x : List Nat) : Prop := ∃ j, j < m ∧ x = [1, 5, 7, j]
/-- The first three boxes. -/
def rg0 (w : World) (V : Value) (st : Int) (W : World) : Prop := ∃ OW : Ow, Cells W OW [1, 2] w.heap.size 0 [V] ∧ Cells W OW [1, 3] (w.heap.size + 1) 0 [.int .i64 st] ∧ Cells W OW [1, 7] (w.heap.size + 1 + 1) 0 [.bool false] ∧ Turn [1] w ow0 W OW
theorem rg0_new (w : World) (V : Value) (st : Int) (a b c : TypeId) : rg0 w V st (((w.alloc (.cells #[V] a)).alloc (.cells #[.int .i64 st] b)).alloc (.cells #[.bool false] c)) := by
  obtain ⟨o0, c0, n0, z0⟩ := add_cells w ow0 [1, 2] [V] a
  generalize w.alloc (.cells #[V] a) = w0 at *
  obtain ⟨o1, c1, n1, z1⟩ := add_cells w0 o0 [1, 3] [.int .i64 st] b
  generalize w0.alloc (.cells #[.int .i64 st] b) = w1 at *
  obtain ⟨o2, c2, n2, z2⟩ := add_cells w1 o1 [1, 7] [.bool false] c
  generalize w1.alloc (.cells #[.bool false] c) = w2 at *
  rw [z0] at c1
  have s2 : w1.heap.size = w.heap.size + 2 := by omega
  rw [s2] at c2
  exact ⟨o2, (c0.new_ n1).new_ n2, c1.new_ n2, c2, ((n0.turn [1]).trans (n1.turn [1])).trans (n2.turn [1])⟩
/-- What the first loop keeps. -/
def rgF (w : World) (g2 g3 g4 g7 gq gt gL : Nat) (V : Value) (st : Int) (xs : List Int) (gn : Nat) (i : Value) (W : World) : Prop :=
  ∃ (k : Nat) (OW : Ow), gn = xs.length - k ∧ k ≤ xs.length ∧ i = .int .i64 (k : Int) ∧ Cells W OW [1, 2] g2 0 [V] ∧ Cells W OW [1, 3] g3 0 [.int .i64 st] ∧ Cells W OW [1, 7] g4 0 [.bool false] ∧ Cells W OW [1, 4] g7 0 [.pointer (some ⟨gL, 0, none⟩)] ∧
    EInt.Q W OW [1, 5, 0] gq 0 (xs.take k) ∧ TII.TbP W OW [1, 5, 1] gt 0 (idx (xs.take k)) ∧ EInt.L W OW [1, 5, 2] gL 0 (on3 (xs.take k)) ∧ Turn [1] w ow0 W OW

set_option maxRecDepth 100000 in
set_option maxHeartbeats 16000000 in
theorem rangesL (w : World) (v : Value) (xs : List Int) (h : EInt.In w v xs) (st : Int) (hst : -9223372036854775808 ≤ st ∧ st ≤ 9223372036854775807) : Calls Try.prog 13 #[v, .int .i64 st] w fun e w' => e = .returned (.bool true) ∧ Below w.heap.size w w' := by
  obtain ⟨A, cap, rfl, hcap, hmax, hcov⟩ := h
  have Hcov := Lib.hid hcov
  clear hcov
  refine calls_marks (fn := Try.f13) Try.func13 rfl ?_
  simp only [Try.ntmps13, List.size_toArray, List.length_cons, List.length_nil, Nat.reduceAdd, Nat.reduceSub, Array.replicate_succ, Array.replicate_zero, List.push_toArray, List.append_toArray, List.nil_append, List.cons_append]
  go_upto_region 1 with fail
  refine gen_world (rg0 w (.slice A xs.length cap) st) (rg0_new w _ _ _ _ _) ?_
  rintro w1 ⟨ow1, h2, h3, h4, t⟩
  generalize hg4 : w.heap.size + 1 + 1 = g4 at *
  generalize hg3 : w.heap.size + 1 = g3 at *
  generalize hg2 : w.heap.size = g2 at *
  clear hg4 hg3
  have c2 := h2.get0
  have f2 := h2.free 0
  have lg2 := h2.lt
  go_upto_if 25 with fail
  go_cut [] from 23 to 25 (fun wx => ∃ OW, Cells wx OW [1, 2] g2 0 [.slice A (xs.take 100).length cap] ∧ Cells wx OW [1, 3] g3 0 [.int .i64 st] ∧ Cells wx OW [1, 7] g4 0 [.bool false] ∧ Turn [1] w ow0 wx OW)
  case first =>
    by_cases h300 : (100 : Int) < (xs.length : Int)
    · have c100 : (100 : Int) ≤ (cap : Int) := by omega
      go_wp2_with fail
      go_meet
      have tk := h2.turn 0 (.slice A 100 cap) (by simp)
      refine ⟨ow1, ?_, h3.keep tk (by simp), h4.keep tk (by simp), t.trans (tk.up (by simp))⟩
      rw [List.length_take, Nat.min_eq_left (by omega)]
      exact h2.set0 _
    · go_wp2_with fail
      go_meet
      refine ⟨ow1, ?_, h3, h4, t⟩
      rw [List.take_of_length_le (by omega)]
      exact h2
  case rest =>
    clear h2 h3 h4 t c2 f2 lg2
    obtain ⟨ow2, h2, h3, h4, t⟩ := hcut
    obtain ⟨w2, rfl⟩ : ∃ w2 : World, w2 = wc := ⟨_, rfl⟩
    have hlen : (xs.take 100).length ≤ 100 := by rw [List.length_take]; omega
    have hcov : EInt.Cov w A (EInt.css (xs.take 100)) := by rw [EInt.css_take]; exact Hcov.out.take _
    generalize hys : xs.take 100 = ys at *
    have Hc := Lib.hid hcov
    clear hys Hcov hcap hmax hcov
    go_upto_region 4 with fail
    obtain ⟨ow3, hqc, nn, -⟩ := add_cells w2 ow2 [1, 5, 0, 0] [.slice none 0 0, .int .i64 0] 74
    generalize w2.alloc (.cells #[.slice none 0 0, .int .i64 0] 74) = w3 at *
    generalize w2.heap.size = gq at *
    replace h2 := h2.new_ nn
    replace h3 := h3.new_ nn
    replace h4 := h4.new_ nn
    replace t := t.trans (nn.turn [1])
    clear nn
    go_upto_region 5 with fail
    obtain ⟨ow4, htc, nn, -⟩ := add_cells w3 ow3 [1, 5, 1, 0] [.slice none 0 0] 49
    generalize w3.alloc (.cells #[.slice none 0 0] 49) = w4 at *
    generalize w3.heap.size = gt at *
    replace h2 := h2.new_ nn
    replace h3 := h3.new_ nn
    replace h4 := h4.new_ nn
    replace hqc := hqc.new_ nn
    replace t := t.trans (nn.turn [1])
    clear nn
    go_wp2_with fail
    refine (EInt.l_new w4 ow4 [1, 5, 2] 5 (by omega) (by omega)).mono ?_
    rintro e w5 ⟨gL, ow5, rfl, hl, nn, -⟩
    replace hl : EInt.L w5 ow5 [1, 5, 2] gL 0 (on3 []) := hl
    replace h2 := h2.new_ nn
    replace h3 := h3.new_ nn
    replace h4 := h4.new_ nn
    replace hqc := hqc.new_ nn
    replace htc := htc.new_ nn
    replace t := t.trans (nn.turn [1])
    clear nn
    go_upto_region 6 with fail
    obtain ⟨ow6, h7, nn, -⟩ := add_cells w5 ow5 [1, 4] [.pointer (some ⟨gL, 0, none⟩)] 36
    generalize w5.alloc (.cells #[.pointer (some ⟨gL, 0, none⟩)] 36) = w6 at *
    generalize w5.heap.size = g7 at *
    replace h2 := h2.new_ nn
    replace h3 := h3.new_ nn
    replace h4 := h4.new_ nn
    replace hqc := hqc.new_ nn
    replace htc := htc.new_ nn
    replace hl := hl.new_ nn
    replace t := t.trans (nn.turn [1])
    clear nn
    have hq : EInt.Q w6 ow6 [1, 5, 0] gq 0 (ys.take 0) := ⟨_, [], 0, hqc, Row.nil _ _ _ _ _, Nat.le_refl _, by simp⟩
    have ht : TII.TbP w6 ow6 [1, 5, 1] gt 0 (idx (ys.take 0)) := ⟨_, htc, Row.nil _ _ _ _ _⟩
    have hl : EInt.L w6 ow6 [1, 5, 2] gL 0 (on3 (ys.take 0)) := hl
    clear hqc htc
    have c7 := h7.get0
    have lg7 := h7.lt
    have c2 := h2.get0
    go_wp2_with fail
    clear c7 lg7 c2
    go_loopg [9] ys.length (fun gn i wr => rgF w g2 g3 g4 g7 gq gt gL (.slice A ys.length cap) st ys gn i wr)
    case atStart => exact ⟨0, ow6, rfl, Nat.zero_le _, rfl, h2, h3, h4, h7, hq, ht, hl, t⟩
    case round =>
      clear h2 h3 h4 h7 hq ht hl t
      obtain ⟨k, OW, hgk, hk, rfl, h2, h3, h4, h7, hq, ht, hl, t⟩ := hrel
      have Hgk := Lib.hid hgk
      clear hgk
      have c2 := h2.get0
      by_cases hlt : k < ys.length
      · obtain ⟨y, hy⟩ : ∃ y, ys[k]? = some y := ⟨_, List.getElem?_eq_getElem hlt⟩
        obtain ⟨b, off, rfl, d0⟩ := Hc.out.at k y hy
        have lb := World.block_lt_of_cell? w _ d0
        simp only at lb
        have i0 : (k : Int) < (ys.length : Int) := by omega
        have hys : ys.take (k + 1) = ys.take k ++ [y] := by rw [List.take_add_one, hy]; rfl
        have hkl : (ys.take k).length = k := by rw [List.length_take]; omega
        have Hys := Lib.hid hys
        have Hkl := Lib.hid hkl
        clear hy hys hkl
        have e0 := (t.new_ ow0 [1]).below
        replace e0 := (e0.cell (p := ⟨b, off + k, none⟩) lb).trans d0
        go_wp2_with fail
        refine (EInt.q_put wr OW [1, 5, 0] gq 0 (ys.take k) y hq (by rw [Hkl.out]; omega)).mono ?_
        rintro e w21 ⟨ow21, rfl, hn', tt⟩
        replace h2 := h2.keep tt (by simp)
        replace h3 := h3.keep tt (by simp)
        replace h4 := h4.keep tt (by simp)
        replace h7 := h7.keep tt (by simp)
        replace ht := ht.keep tt (by simp) (by simp)
        replace hl := hl.keep tt (by simp) (fun i j => by simp)
        replace t := t.trans (tt.up (by simp))
        clear hq tt
        have hq := hn'
        clear hn'
        clear e0 c2
        have c2 := h2.get0
        have e0 := (t.new_ ow0 [1]).below
        replace e0 := (e0.cell (p := ⟨b, off + k, none⟩) lb).trans d0
        go_wp2_with fail
        have hset := set_idx (ys.take k) y
        rw [Hkl.out] at hset
        have hcall := TII.setQ w21 ow21 [1, 5, 1] gt 0 (idx (ys.take k)) (k : Int) y ht (idx_rise _) (by rw [idx_length, Hkl.out]; omega)
        rw [hset.1, hset.2] at hcall
        clear hset
        refine (hcall).mono ?_
        rintro e w22 ⟨ow22, rfl, hn', tt⟩
        replace h2 := h2.keep tt (by simp)
        replace h3 := h3.keep tt (by simp)
        replace h4 := h4.keep tt (by simp)
        replace h7 := h7.keep tt (by simp)
        replace hq := hq.keep tt (by simp) (by simp)
        replace hl := hl.keep tt (by simp) (fun i j => by simp)
        replace t := t.trans (tt.up (by simp))
        clear ht tt
        have ht := hn'
        clear hn'
        clear hcall e0 c2
        have c2 := h2.get0
        have c7 := h7.get0
        have e0 := (t.new_ ow0 [1]).below
        replace e0 := (e0.cell (p := ⟨b, off + k, none⟩) lb).trans d0
        go_wp2_with fail
        refine plain_regionN (fun W' : World => W'.cell? ⟨g7, 0, none⟩ = some (.pointer (some ⟨gL, 0, none⟩)) ∧ W'.cell? ⟨g2, 0, none⟩ = some (.slice (some ⟨b, off, none⟩) ys.length cap) ∧ W'.cell? ⟨b, off + k, none⟩ = some (.int .i64 y)) [] (by kernel_rfl) ?_
        have hS : (fun W' : World => W'.cell? ⟨g7, 0, none⟩ = some (.pointer (some ⟨gL, 0, none⟩)) ∧ W'.cell? ⟨g2, 0, none⟩ = some (.slice (some ⟨b, off, none⟩) ys.length cap) ∧ W'.cell? ⟨b, off + k, none⟩ = some (.int .i64 y)) w22.drew := ⟨c7, c2, e0⟩
        refine anyX_takeNL 0 (v := ?_) rfl rfl (by as_aux_lemma => kernel_rfl) (by as_aux_lemma => kernel_rfl) (by as_aux_lemma => kernel_rfl) (by as_aux_lemma => kernel_rfl) (by as_aux_lemma => kernel_rfl) (fun _ _ _ h => h) rfl ?_ hS ?_
        rotate_left
        · intro W' hW'
          obtain ⟨s0, s1, s2⟩ := hW'
          all_goals (go_simp; first | done | rfl)
        intro l' hl
        dsimp only [List.set_cons_succ, List.set_cons_zero] at hl
        subst hl
        refine anyX_takeNL 1 (v := ?_) rfl rfl (by as_aux_lemma => kernel_rfl) (by as_aux_lemma => kernel_rfl) (by as_aux_lemma => kernel_rfl) (by as_aux_lemma => kernel_rfl) (by as_aux_lemma => kernel_rfl) (fun _ _ _ h => h) rfl ?_ hS ?_
        rotate_left
        · intro W' hW'
          obtain ⟨s0, s1, s2⟩ := hW'
          all_goals (go_simp; first | done | rfl)
        intro l' hl
        dsimp only [List.set_cons_succ, List.set_cons_zero] at hl
        subst hl
        refine anyX_takeNL 2 (v := ?_) rfl rfl (by as_aux_lemma => kernel_rfl) (by as_aux_lemma => kernel_rfl) (by as_aux_lemma => kernel_rfl) (by as_aux_lemma => kernel_rfl) (by as_aux_lemma => kernel_rfl) (fun _ _ _ h => h) rfl ?_ hS ?_
        rotate_left
        · intro W' hW'
          obtain ⟨s0, s1, s2⟩ := hW'
          all_goals (go_simp; first | done | rfl)
        intro l' hl
        dsimp only [List.set_cons_succ, List.set_cons_zero] at hl
        subst hl
        refine anyX_takeNL 3 (v := ?_) rfl rfl (by as_aux_lemma => kernel_rfl) (by as_aux_lemma => kernel_rfl) (by as_aux_lemma => kernel_rfl) (by as_aux_lemma => kernel_rfl) (by as_aux_lemma => kernel_rfl) (fun _ _ _ h => h) rfl ?_ hS ?_
        rotate_left
        · intro W' hW'
          obtain ⟨s0, s1, s2⟩ := hW'
          all_goals (go_simp; first | done | rfl)
        intro l' hl
        dsimp only [List.set_cons_succ, List.set_cons_zero] at hl
        subst hl
        refine anyX_takeNL 4 (v := ?_) rfl rfl (by as_aux_lemma => kernel_rfl) (by as_aux_lemma => kernel_rfl) (by as_aux_lemma => kernel_rfl) (by as_aux_lemma => kernel_rfl) (by as_aux_lemma => kernel_rfl) (fun _ _ _ h => h) rfl ?_ hS ?_
        rotate_left
        · intro W' hW'
          obtain ⟨s0, s1, s2⟩ := hW'
          all_goals (go_simp; first | done | rfl)
        intro l' hl
        dsimp only [List.set_cons_succ, List.set_cons_zero] at hl
        subst hl
        refine anyX_one (i := 5) (by kernel_rfl) rfl rfl fun K' hK' => ?_
        unfold Oper.wp
        go_simp
        clear hS c7 c2 e0
        have nn : New w22 ow22 w22.drew ow22 := (New.refl _ _).drew
        replace h2 := h2.new_ nn
        replace h3 := h3.new_ nn
        replace h4 := h4.new_ nn
        replace h7 := h7.new_ nn
        replace hq := hq.new_ nn
        replace ht := ht.new_ nn
        replace hl := hl.new_ nn
        replace t := t.trans (nn.turn [1])
        clear nn
        refine (put3 (ys.take k) y (by rw [Hkl.out]; omega) w22.drew ow22 [1, 5, 2] gL hl).mono ?_
        rintro e w41 ⟨ow41, rfl, hn', tt⟩
        replace h2 := h2.keep tt (by simp)
        replace h3 := h3.keep tt (by simp)
        replace h4 := h4.keep tt (by simp)
        replace h7 := h7.keep tt (by simp)
        replace hq := hq.keep tt (by simp) (by simp)
        replace ht := ht.keep tt (by simp) (by simp)
        replace t := t.trans (tt.up (by simp))
        clear hl tt
        have hl := hn'
        clear hn'
        have c2 := h2.get0
        have c7 := h7.get0
        have e0 := (t.new_ ow0 [1]).below
        replace e0 := (e0.cell (p := ⟨b, off + k, none⟩) lb).trans d0
        have hS : (fun W' : World => W'.cell? ⟨g7, 0, none⟩ = some (.pointer (some ⟨gL, 0, none⟩)) ∧ W'.cell? ⟨g2, 0, none⟩ = some (.slice (some ⟨b, off, none⟩) ys.length cap) ∧ W'.cell? ⟨b, off + k, none⟩ = some (.int .i64 y)) w41 := ⟨c7, c2, e0⟩
        refine hK' _ _ (fun _ => hS) ?_
        clear hK' K' hS c7 c2 e0
        refine anyX_done (by kernel_rfl) ?_ _
        refine NoPanic.normal ?_
        rw [← Hys.out] at hq ht hl
        go_wp2_with fail
        go_roundg (ys.length - (k + 1))
        case measure => have := Hgk.out; omega
        case rel => exact ⟨k + 1, ow41, rfl, by omega, by go_num, h2, h3, h4, h7, hq, ht, hl, t⟩
      · obtain rfl : k = ys.length := by omega
        clear hlt Hgk
        rw [List.take_length] at hq ht hl
        have c3 := h3.get0
        have f3 := h3.free 0
        have lg3 := h3.lt
        go_wp2_with fail
        refine (within wr st 0 9 (by omega) (by omega) (by omega) hst).mono ?_
        rintro e w51 ⟨st', rfl, hs0, hs9, rfl⟩
        go_upto_region 15 with fail
        have tk := h3.turn 0 (.int .i64 st') (by simp)
        have h3' := h3.set0 (.int .i64 st')
        replace h2 := h2.keep tk (by simp)
        replace h4 := h4.keep tk (by simp)
        replace h7 := h7.keep tk (by simp)
        replace hq := hq.keep tk (by simp) (by simp)
        replace ht := ht.keep tk (by simp) (by simp)
        replace hl := hl.keep tk (by simp) (fun i j => by simp)
        replace t := t.trans (tk.up (by simp))
        clear h3 c3 f3 lg3 c2
        have h3 := h3'
        clear h3' tk
        generalize w51.setCell ⟨g3, 0, none⟩ (.int .i64 st') = w52 at *
        go_wp2_with fail
        refine (EInt.q_all w52 gq 0).mono ?_
        rintro e w53 ⟨rfl, hww⟩
        obtain ⟨ow53, h8, nn, -⟩ := add_cells w52 OW [1, 8, 0] [.pointer (some ⟨gq, 0, none⟩)] 89
        rw [← hww] at h8 nn
        clear hww
        generalize w52.heap.size = ca at *
        replace h2 := h2.new_ nn
        replace h3 := h3.new_ nn
        replace h4 := h4.new_ nn
        replace h7 := h7.new_ nn
        replace hq := hq.new_ nn
        replace ht := ht.new_ nn
        replace hl := hl.new_ nn
        replace t := t.trans (nn.turn [1])
        clear nn
        go_wp2_with fail
        refine (TII.t_all w53 gt 0).mono ?_
        rintro e w54 ⟨rfl, hww⟩
        obtain ⟨ow54, h9, nn, -⟩ := add_cells w53 ow53 [1, 8, 1] [.pointer (some ⟨gt, 0, none⟩)] 147
        rw [← hww] at h9 nn
        clear hww
        generalize w53.heap.size = cb at *
        replace h2 := h2.new_ nn
        replace h3 := h3.new_ nn
        replace h4 := h4.new_ nn
        replace h7 := h7.new_ nn
        replace hq := hq.new_ nn
        replace ht := ht.new_ nn
        replace hl := hl.new_ nn
        replace h8 := h8.new_ nn
        replace t := t.trans (nn.turn [1])
        clear nn
        have c7 := h7.get0
        go_wp2_with fail
        clear c7
        refine (EInt.l_all w54 gL 0).mono ?_
        rintro e w55 ⟨rfl, hww⟩
        obtain ⟨ow55, h10, nn, -⟩ := add_cells w54 ow54 [1, 8, 2] [.pointer (some ⟨gL, 0, none⟩)] 36
        rw [← hww] at h10 nn
        clear hww
        generalize w54.heap.size = cc at *
        replace h2 := h2.new_ nn
        replace h3 := h3.new_ nn
        replace h4 := h4.new_ nn
        replace h7 := h7.new_ nn
        replace hq := hq.new_ nn
        replace ht := ht.new_ nn
        replace hl := hl.new_ nn
        replace h8 := h8.new_ nn
        replace h9 := h9.new_ nn
        replace t := t.trans (nn.turn [1])
        clear nn
        have hf1 := fun (W : World) (b : Nat) => run_eql_fn (P := Try.prog) W 102 _ _ _ (.func 116) #[] #[.pointer (some ⟨b, 0, none⟩)] Try.underlying102
        have hf2 := fun (W : World) (b : Nat) => run_eql_fn (P := Try.prog) W 102 _ _ _ (.func 127) #[] #[.pointer (some ⟨b, 0, none⟩)] Try.underlying102
        have hf3 := fun (W : World) (b : Nat) => run_eql_fn (P := Try.prog) W 102 _ _ _ (.func 129) #[] #[.pointer (some ⟨b, 0, none⟩)] Try.underlying102
        go_upto_block 2 with fail
        clear hf1 hf2 hf3
        obtain ⟨ow56, hu, nn, -⟩ := add_cells w55 ow55 [1, 9] [.int .i64 0] 3
        generalize w55.alloc (.cells #[.int .i64 0] 3) = w56 at *
        generalize w55.heap.size = gu at *
        replace h2 := h2.new_ nn
        replace h3 := h3.new_ nn
        replace h4 := h4.new_ nn
        replace h7 := h7.new_ nn
        replace hq := hq.new_ nn
        replace ht := ht.new_ nn
        replace hl := hl.new_ nn
        replace h8 := h8.new_ nn
        replace h9 := h9.new_ nn
        replace h10 := h10.new_ nn
        replace t := t.trans (nn.turn [1])
        clear nn
        have hb : rsB g2 g3 g4 g7 ca cb cc gq gt gL (.slice A ys.length cap) st' w56 ow56 := ⟨h2, h3, h4, h7, h8, h9, h10⟩
        clear h2 h3 h4 h7 h8 h9 h10
        obtain ⟨N, hN⟩ : ∃ N, N = ys.length := ⟨_, rfl⟩
        rw [← hN] at hb hlen
        have HN := Lib.hid hN
        clear hN
        have u0 := hu.get0
        have lgu := hu.lt
        go_wp2
        refine wp_loop_rounds 3 ?_
        rw [rounds_succ]
        clear u0 lgu
        have u0 := hu.get0
        have hM : Marks (okR 0) w56 ow56 [] := trivial
        go_upto_block 4 with fail
        obtain ⟨ow71, hn, nn, -⟩ := add_cells w56 ow56 [1, 5, 3] [.int .i64 0] 3
        generalize w56.alloc (.cells #[.int .i64 0] 3) = w71 at *
        generalize w56.heap.size = gn0 at *
        replace hu := hu.new_ nn
        replace hq := hq.new_ nn
        replace ht := ht.new_ nn
        replace hl := hl.new_ nn
        replace hb := hb.new_ nn
        replace hM := hM.new_ nn
        replace t := t.trans (nn.turn [1])
        clear nn
        refine cut_defers (fun ds W => ∃ (OW : Ow) (k : Nat), Cells W OW [1, 9] gu 0 [.int .i64 0] ∧ EInt.Q W OW [1, 5, 0] gq 0 ys ∧ TII.TbP W OW [1, 5, 1] gt 0 (idx ys) ∧ EInt.L W OW [1, 5, 2] gL 0 (on3 ys) ∧ rsB g2 g3 g4 g7 ca cb cc gq gt gL (.slice A N cap) st' W OW ∧ Cells W OW [1, 5, 3] gn0 0 [.int .i64 (k : Int)] ∧ Turn [1] w ow0 W OW ∧ Marks (okR 1) W OW ds) ?_ ?_
        rotate_left
        · intro K' hK'
          go_wp2
          refine wp_rangeN (gf := 116) (lb := #[.pointer (some ⟨ca, 0, none⟩)]) rfl (enters_of Try.func116 (by kernel_rfl) rfl) (EInt.qargs ys) [1, 6] [1, 5] [1, 5, 7, 0] (EInt.q_iterN w71 ow71 [1, 5, 0] [1, 8, 0] [1, 6] [1, 5] gq 0 ca ys hq (by rw [← HN.out]; omega) hb.2.2.2.2.1 (by simp)) (by simp) (by simp) ?_
            (fun (k : Nat) (W : World) (OW : Ow) => Cells W OW [1, 9] gu 0 [.int .i64 0] ∧ EInt.Q W OW [1, 5, 0] gq 0 ys ∧ TII.TbP W OW [1, 5, 1] gt 0 (idx ys) ∧ EInt.L W OW [1, 5, 2] gL 0 (on3 ys) ∧ rsB g2 g3 g4 g7 ca cb cc gq gt gL (.slice A N cap) st' W OW ∧ Cells W OW [1, 5, 3] gn0 0 [.int .i64 (k : Int)] ∧ Turn [1] w ow0 W OW ∧ Marks (okR 0) W OW []) (fun (c : Code) (_ : Nat) (W : World) (OW : Ow) => c = Code.exit 4 ∧ ∃ k : Nat, Cells W OW [1, 9] gu 0 [.int .i64 0] ∧ EInt.Q W OW [1, 5, 0] gq 0 ys ∧ TII.TbP W OW [1, 5, 1] gt 0 (idx ys) ∧ EInt.L W OW [1, 5, 2] gL 0 (on3 ys) ∧ rsB g2 g3 g4 g7 ca cb cc gq gt gL (.slice A N cap) st' W OW ∧ Cells W OW [1, 5, 3] gn0 0 [.int .i64 (k : Int)] ∧ Turn [1] w ow0 W OW ∧ Marks (okR 0) W OW []) ?_ ?_ ?_ ?_ ?_ ?_ ?_ ?_
          · intro i args hi
            obtain ⟨x, -, rfl⟩ := EInt.qargs_at ys i args hi
            rfl
          · intro k W1 OW1 W2 OW2 ⟨hu, hq, ht, hl, hb, hn, t, hM⟩ tt
            exact ⟨hu.keep tt (by simp), hq.keep tt (by simp) (by simp), ht.keep tt (by simp) (by simp), hl.keep tt (by simp) (fun i j => by simp), hb.keep tt (by simp), hn.keep tt (by simp), t.trans (tt.up (by simp)), hM.keep tt (by rintro x ⟨j, hj, rfl⟩; simp <;> omega)⟩
          · intro c j W1 OW1 W2 OW2 ⟨hc, k, hu, hq, ht, hl, hb, hn, t, hM⟩ tt
            exact ⟨hc, k, hu.keep tt (by simp), hq.keep tt (by simp) (by simp), ht.keep tt (by simp) (by simp), hl.keep tt (by simp) (fun i j => by simp), hb.keep tt (by simp), hn.keep tt (by simp), t.trans (tt.up (by simp)), hM.keep tt (by rintro x ⟨j, hj, rfl⟩; simp <;> omega)⟩
          · intro k W1 OW1 W2 OW2 ⟨hu, hq, ht, hl, hb, hn, t, hM⟩ tt
            exact ⟨hu.keep tt (by simp), hq.keep tt (by simp) (by simp), ht.keep tt (by simp) (by simp), hl.keep tt (by simp) (fun i j => by simp), hb.keep tt (by simp), hn.keep tt (by simp), t.trans (tt.up (by simp)), hM.keep tt (by rintro x ⟨j, hj, rfl⟩; simp <;> omega)⟩
          · intro c j W1 OW1 W2 OW2 ⟨hc, k, hu, hq, ht, hl, hb, hn, t, hM⟩ tt
            exact ⟨hc, k, hu.keep tt (by simp), hq.keep tt (by simp) (by simp), ht.keep tt (by simp) (by simp), hl.keep tt (by simp) (fun i j => by simp), hb.keep tt (by simp), hn.keep tt (by simp), t.trans (tt.up (by simp)), hM.keep tt (by rintro x ⟨j, hj, rfl⟩; simp <;> omega)⟩
          · exact ⟨hu, hq, ht, hl, hb, hn, t, hM⟩
          · intro l' D j rr rb args W4 OW4 hxj hI hBk
            clear hu hq ht hl hb hn t hM
            obtain ⟨x, hx, rfl⟩ := EInt.qargs_at ys j args hxj
            obtain ⟨hu, hq, ht, hl, hb, hn, t, hM⟩ := hI
            rw [foldl2]
            simp only [List.setIfInBounds_toArray, List.set_cons_succ, List.set_cons_zero]
            gi_wp2
            refine ⟨OW4, Turn.refl _ _ _, hBk, fun W5 ht5 hBk5 => ?_⟩
            replace hu := hu.keep ht5 (by simp)
            replace hq := hq.keep ht5 (by simp) (by simp)
            replace ht := ht.keep ht5 (by simp) (by simp)
            replace hl := hl.keep ht5 (by simp) (fun i j => by simp)
            replace hb := hb.keep ht5 (by simp)
            replace hn := hn.keep ht5 (by simp)
            replace t := t.trans (ht5.up (by simp))
            replace hM := hM.keep ht5 (by rintro x ⟨j, hj, rfl⟩; simp <;> omega)
            have hjl : j < N := by rw [HN.out]; exact (List.getElem?_eq_some_iff.1 hx).1
            obtain ⟨b, off, rfl, d0⟩ := Hc.out.at j x hx
            have lb := World.block_lt_of_cell? w _ d0
            simp only at lb
            have e0 := (t.new_ ow0 [1]).below
            replace e0 := (e0.cell (p := ⟨b, off + j, none⟩) lb).trans d0
            have v2 := hb.1.get0
            have v3 := hb.2.1.get0
            have n0 := hn.get0
            have nf := hn.free 0
            have nl := hn.lt
            have u0 := hu.get0
            have i1 : (j : Int) < (N : Int) := by omega
            clear hx hxj ht5 hBk
            have q1 : ¬ gu = gn0 := fun e => hu.ne hn (by simp) (i := 0) (j := 0) (by simp) (by simp) ⟨e, rfl⟩
            have q2 : ¬ gn0 = gu := fun e => q1 e.symm
            have q3 : ¬ g3 = gn0 := fun e => hb.2.1.ne hn (by simp) (i := 0) (j := 0) (by simp) (by simp) ⟨e, rfl⟩
            have q4 : ¬ gn0 = g3 := fun e => q3 e.symm
            by_cases hs : st' < (j : Int) + 1
            · gi_wp2
              have tk := hn.turn 0 (.int .i64 ((j : Int) + 1)) (by simp)
              exact ⟨OW4, tk.up (by simp), hBk5.setCell _ _, rfl, j + 1, hu.keep tk (by simp), hq.keep tk (by simp) (by simp), ht.keep tk (by simp) (by simp), hl.keep tk (by simp) (fun i j => by simp), hb.keep tk (by simp), hn.set0 _, t.trans (tk.up (by simp)), hM.keep tk (by rintro x ⟨j, hj, rfl⟩; simp <;> omega)⟩
            · gi_wp2
              have tk := hn.turn 0 (.int .i64 ((j : Int) + 1)) (by simp)
              exact ⟨OW4, tk.up (by simp), hBk5.setCell _ _, hu.keep tk (by simp), hq.keep tk (by simp) (by simp), ht.keep tk (by simp) (by simp), hl.keep tk (by simp) (fun i j => by simp), hb.keep tk (by simp), hn.set0 _, t.trans (tk.up (by simp)), hM.keep tk (by rintro x ⟨j, hj, rfl⟩; simp <;> omega)⟩
          · intro D W4 OW4 hI hD oD hDs
            have hfr := hM.fresh hDs
            clear hu hq ht hl hb hn t hM
            rw [EInt.qargs_length, ← HN.out] at hI
            obtain ⟨hu, hq, ht, hl, hb, hn, t, hM⟩ := hI
            exact hK' _ _ ⟨OW4, N, hu, hq, ht, hl, hb, hn, t, ⟨D, rfl, hD, ⟨0, by omega, oD⟩, hfr⟩, hM.mono fun x ⟨j, hj, e⟩ => ⟨j, by omega, e⟩⟩
          · intro D c k' W4 OW4 hk' hI hD oD hDs
            have hfr := hM.fresh hDs
            clear hu hq ht hl hb hn t hM
            obtain ⟨rfl, k, hu, hq, ht, hl, hb, hn, t, hM⟩ := hI
            go_wp2
            exact ⟨OW4, k, hu, hq, ht, hl, hb, hn, t, ⟨D, rfl, hD, ⟨0, by omega, oD⟩, hfr⟩, hM.mono fun x ⟨j, hj, e⟩ => ⟨j, by omega, e⟩⟩
        clear hu hq ht hl hb hn t hM
        rintro ds01 w72 ⟨ow72, k1, hu, hq, ht, hl, hb, hn, t, hM⟩
        go_upto_block 6 with fail
        obtain ⟨ow73, hm, nn, -⟩ := add_cells w72 ow72 [1, 5, 4] [.int .i64 0] 3
        generalize w72.alloc (.cells #[.int .i64 0] 3) = w73 at *
        generalize w72.heap.size = gm0 at *
        replace hu := hu.new_ nn
        replace hq := hq.new_ nn
        replace ht := ht.new_ nn
        replace hl := hl.new_ nn
        replace hb := hb.new_ nn
        replace hn := hn.new_ nn
        replace hM := hM.new_ nn
        replace t := t.trans (nn.turn [1])
        clear nn
        refine cut_defers (fun ds W => ∃ (OW : Ow) (k : Nat), Cells W OW [1, 9] gu 0 [.int .i64 0] ∧ EInt.Q W OW [1, 5, 0] gq 0 ys ∧ TII.TbP W OW [1, 5, 1] gt 0 (idx ys) ∧ EInt.L W OW [1, 5, 2] gL 0 (on3 ys) ∧ rsB g2 g3 g4 g7 ca cb cc gq gt gL (.slice A N cap) st' W OW ∧ Cells W OW [1, 5, 3] gn0 0 [.int .i64 (k1 : Int)] ∧ Cells W OW [1, 5, 4] gm0 0 [.int .i64 (k : Int)] ∧ Turn [1] w ow0 W OW ∧ Marks (okR 2) W OW ds) ?_ ?_
        rotate_left
        · intro K' hK'
          go_wp2
          refine wp_rangeN (gf := 127) (lb := #[.pointer (some ⟨cb, 0, none⟩)]) rfl (enters_of Try.func127 (by kernel_rfl) rfl) (TII.targs (idx ys)) [1, 6] [1, 5] [1, 5, 7, 1] (TII.t_iterN w73 ow73 [1, 5, 1] [1, 8, 1] [1, 6] [1, 5] gt 0 cb (idx ys) ht (by rw [idx_length, ← HN.out]; omega) hb.2.2.2.2.2.1 (by simp)) (by simp) (by simp) ?_
            (fun (k : Nat) (W : World) (OW : Ow) => Cells W OW [1, 9] gu 0 [.int .i64 0] ∧ EInt.Q W OW [1, 5, 0] gq 0 ys ∧ TII.TbP W OW [1, 5, 1] gt 0 (idx ys) ∧ EInt.L W OW [1, 5, 2] gL 0 (on3 ys) ∧ rsB g2 g3 g4 g7 ca cb cc gq gt gL (.slice A N cap) st' W OW ∧ Cells W OW [1, 5, 3] gn0 0 [.int .i64 (k1 : Int)] ∧ Cells W OW [1, 5, 4] gm0 0 [.int .i64 (k : Int)] ∧ Turn [1] w ow0 W OW ∧ Marks (okR 1) W OW ds01) (fun (c : Code) (_ : Nat) (W : World) (OW : Ow) => c = Code.exit 6 ∧ ∃ k : Nat, Cells W OW [1, 9] gu 0 [.int .i64 0] ∧ EInt.Q W OW [1, 5, 0] gq 0 ys ∧ TII.TbP W OW [1, 5, 1] gt 0 (idx ys) ∧ EInt.L W OW [1, 5, 2] gL 0 (on3 ys) ∧ rsB g2 g3 g4 g7 ca cb cc gq gt gL (.slice A N cap) st' W OW ∧ Cells W OW [1, 5, 3] gn0 0 [.int .i64 (k1 : Int)] ∧ Cells W OW [1, 5, 4] gm0 0 [.int .i64 (k : Int)] ∧ Turn [1] w ow0 W OW ∧ Marks (okR 1) W OW ds01) ?_ ?_ ?_ ?_ ?_ ?_ ?_ ?_
          · intro i args hi
            obtain ⟨x, -, rfl⟩ := targs_idx ys i args hi
            rfl
          · intro k W1 OW1 W2 OW2 ⟨hu, hq, ht, hl, hb, hn, hm, t, hM⟩ tt
            exact ⟨hu.keep tt (by simp), hq.keep tt (by simp) (by simp), ht.keep tt (by simp) (by simp), hl.keep tt (by simp) (fun i j => by simp), hb.keep tt (by simp), hn.keep tt (by simp), hm.keep tt (by simp), t.trans (tt.up (by simp)), hM.keep tt (by rintro x ⟨j, hj, rfl⟩; simp <;> omega)⟩
          · intro c j W1 OW1 W2 OW2 ⟨hc, k, hu, hq, ht, hl, hb, hn, hm, t, hM⟩ tt
            exact ⟨hc, k, hu.keep tt (by simp), hq.keep tt (by simp) (by simp), ht.keep tt (by simp) (by simp), hl.keep tt (by simp) (fun i j => by simp), hb.keep tt (by simp), hn.keep tt (by simp), hm.keep tt (by simp), t.trans (tt.up (by simp)), hM.keep tt (by rintro x ⟨j, hj, rfl⟩; simp <;> omega)⟩
          · intro k W1 OW1 W2 OW2 ⟨hu, hq, ht, hl, hb, hn, hm, t, hM⟩ tt
            exact ⟨hu.keep tt (by simp), hq.keep tt (by simp) (by simp), ht.keep tt (by simp) (by simp), hl.keep tt (by simp) (fun i j => by simp), hb.keep tt (by simp), hn.keep tt (by simp), hm.keep tt (by simp), t.trans (tt.up (by simp)), hM.keep tt (by rintro x ⟨j, hj, rfl⟩; simp <;> omega)⟩
          · intro c j W1 OW1 W2 OW2 ⟨hc, k, hu, hq, ht, hl, hb, hn, hm, t, hM⟩ tt
            exact ⟨hc, k, hu.keep tt (by simp), hq.keep tt (by simp) (by simp), ht.keep tt (by simp) (by simp), hl.keep tt (by simp) (fun i j => by simp), hb.keep tt (by simp), hn.keep tt (by simp), hm.keep tt (by simp), t.trans (tt.up (by simp)), hM.keep tt (by rintro x ⟨j, hj, rfl⟩; simp <;> omega)⟩
          · exact ⟨hu, hq, ht, hl, hb, hn, hm, t, hM⟩
          · intro l' D j rr rb args W4 OW4 hxj hI hBk
            clear hu hq ht hl hb hn hm t hM
            obtain ⟨x, hx, rfl⟩ := targs_idx ys j args hxj
            obtain ⟨hu, hq, ht, hl, hb, hn, hm, t, hM⟩ := hI
            rw [foldl2]
            simp only [List.setIfInBounds_toArray, List.set_cons_succ, List.set_cons_zero]
            gi_wp2
            refine ⟨OW4, Turn.refl _ _ _, hBk, fun W5 ht5 hBk5 => ?_⟩
            replace hu := hu.keep ht5 (by simp)
            replace hq := hq.keep ht5 (by simp) (by simp)
            replace ht := ht.keep ht5 (by simp) (by simp)
            replace hl := hl.keep ht5 (by simp) (fun i j => by simp)
            replace hb := hb.keep ht5 (by simp)
            replace hn := hn.keep ht5 (by simp)
            replace hm := hm.keep ht5 (by simp)
            replace t := t.trans (ht5.up (by simp))
            replace hM := hM.keep ht5 (by rintro x ⟨j, hj, rfl⟩; simp <;> omega)
            have hjl : j < N := by rw [HN.out]; exact (List.getElem?_eq_some_iff.1 hx).1
            obtain ⟨b, off, rfl, d0⟩ := Hc.out.at j x hx
            have lb := World.block_lt_of_cell? w _ d0
            simp only at lb
            have e0 := (t.new_ ow0 [1]).below
            replace e0 := (e0.cell (p := ⟨b, off + j, none⟩) lb).trans d0
            have v2 := hb.1.get0
            have v3 := hb.2.1.get0
            have n0 := hm.get0
            have nf := hm.free 0
            have nl := hm.lt
            have u0 := hu.get0
            have i1 : (j : Int) < (N : Int) := by omega
            clear hx hxj ht5 hBk
            have q1 : ¬ gu = gm0 := fun e => hu.ne hm (by simp) (i := 0) (j := 0) (by simp) (by simp) ⟨e, rfl⟩
            have q2 : ¬ gm0 = gu := fun e => q1 e.symm
            have q3 : ¬ g3 = gm0 := fun e => hb.2.1.ne hm (by simp) (i := 0) (j := 0) (by simp) (by simp) ⟨e, rfl⟩
            have q4 : ¬ gm0 = g3 := fun e => q3 e.symm
            by_cases hs : st' < (j : Int) + 1
            · gi_wp2
              have tk := hm.turn 0 (.int .i64 ((j : Int) + 1)) (by simp)
              exact ⟨OW4, tk.up (by simp), hBk5.setCell _ _, rfl, j + 1, hu.keep tk (by simp), hq.keep tk (by simp) (by simp), ht.keep tk (by simp) (by simp), hl.keep tk (by simp) (fun i j => by simp), hb.keep tk (by simp), hn.keep tk (by simp), hm.set0 _, t.trans (tk.up (by simp)), hM.keep tk (by rintro x ⟨j, hj, rfl⟩; simp <;> omega)⟩
            · gi_wp2
              have tk := hm.turn 0 (.int .i64 ((j : Int) + 1)) (by simp)
              exact ⟨OW4, tk.up (by simp), hBk5.setCell _ _, hu.keep tk (by simp), hq.keep tk (by simp) (by simp), ht.keep tk (by simp) (by simp), hl.keep tk (by simp) (fun i j => by simp), hb.keep tk (by simp), hn.keep tk (by simp), hm.set0 _, t.trans (tk.up (by simp)), hM.keep tk (by rintro x ⟨j, hj, rfl⟩; simp <;> omega)⟩
          · intro D W4 OW4 hI hD oD hDs
            have hfr := hM.fresh hDs
            clear hu hq ht hl hb hn hm t hM
            rw [targs_idx_length, ← HN.out] at hI
            obtain ⟨hu, hq, ht, hl, hb, hn, hm, t, hM⟩ := hI
            exact hK' _ _ ⟨OW4, N, hu, hq, ht, hl, hb, hn, hm, t, ⟨D, rfl, hD, ⟨1, by omega, oD⟩, hfr⟩, hM.mono fun x ⟨j, hj, e⟩ => ⟨j, by omega, e⟩⟩
          · intro D c k' W4 OW4 hk' hI hD oD hDs
            have hfr := hM.fresh hDs
            clear hu hq ht hl hb hn hm t hM
            obtain ⟨rfl, k, hu, hq, ht, hl, hb, hn, hm, t, hM⟩ := hI
            go_wp2
            exact ⟨OW4, k, hu, hq, ht, hl, hb, hn, hm, t, ⟨D, rfl, hD, ⟨1, by omega, oD⟩, hfr⟩, hM.mono fun x ⟨j, hj, e⟩ => ⟨j, by omega, e⟩⟩
        clear hu hq ht hl hb hn hm t hM
        rintro ds02 w74 ⟨ow74, k2, hu, hq, ht, hl, hb, hn, hm, t, hM⟩
        go_upto_block 8 with fail
        obtain ⟨ow75, hp, nn, -⟩ := add_cells w74 ow74 [1, 5, 6] [.int .i64 0] 3
        generalize w74.alloc (.cells #[.int .i64 0] 3) = w75 at *
        generalize w74.heap.size = gp0 at *
        replace hu := hu.new_ nn
        replace hq := hq.new_ nn
        replace ht := ht.new_ nn
        replace hl := hl.new_ nn
        replace hb := hb.new_ nn
        replace hn := hn.new_ nn
        replace hm := hm.new_ nn
        replace hM := hM.new_ nn
        replace t := t.trans (nn.turn [1])
        clear nn
        refine cut_defers (fun ds W => ∃ (OW : Ow) (k : Nat), Cells W OW [1, 9] gu 0 [.int .i64 0] ∧ EInt.Q W OW [1, 5, 0] gq 0 ys ∧ TII.TbP W OW [1, 5, 1] gt 0 (idx ys) ∧ EInt.L W OW [1, 5, 2] gL 0 (on3 ys) ∧ rsB g2 g3 g4 g7 ca cb cc gq gt gL (.slice A N cap) st' W OW ∧ Cells W OW [1, 5, 3] gn0 0 [.int .i64 (k1 : Int)] ∧ Cells W OW [1, 5, 4] gm0 0 [.int .i64 (k2 : Int)] ∧ Cells W OW [1, 5, 6] gp0 0 [.int .i64 (k : Int)] ∧ Turn [1] w ow0 W OW ∧ Marks (okR 3) W OW ds) ?_ ?_
        rotate_left
        · intro K' hK'
          go_wp2
          refine wp_rangeN (gf := 129) (lb := #[.pointer (some ⟨cc, 0, none⟩)]) rfl (enters_of Try.func129 (by kernel_rfl) rfl) (EInt.largs (on3 ys)) [1, 6] [1, 5] [1, 5, 7, 2] (EInt.l_iterN w75 ow75 [1, 5, 2] [1, 8, 2] [1, 6] [1, 5] gL 0 cc (on3 ys) hl (fun l hx => by have := on3_small ys (by rw [← HN.out]; omega) l hx; omega) (by simp [on3]) hb.2.2.2.2.2.2 (fun s => by simp) (by simp) (fun i j => by simp) (by simp)) (by simp) (by simp) ?_
            (fun (k : Nat) (W : World) (OW : Ow) => Cells W OW [1, 9] gu 0 [.int .i64 0] ∧ EInt.Q W OW [1, 5, 0] gq 0 ys ∧ TII.TbP W OW [1, 5, 1] gt 0 (idx ys) ∧ EInt.L W OW [1, 5, 2] gL 0 (on3 ys) ∧ rsB g2 g3 g4 g7 ca cb cc gq gt gL (.slice A N cap) st' W OW ∧ Cells W OW [1, 5, 3] gn0 0 [.int .i64 (k1 : Int)] ∧ Cells W OW [1, 5, 4] gm0 0 [.int .i64 (k2 : Int)] ∧ Cells W OW [1, 5, 6] gp0 0 [.int .i64 (k : Int)] ∧ Turn [1] w ow0 W OW ∧ Marks (okR 2) W OW ds02) (fun (c : Code) (_ : Nat) (W : World) (OW : Ow) => c = Code.exit 8 ∧ ∃ k : Nat, Cells W OW [1, 9] gu 0 [.int .i64 0] ∧ EInt.Q W OW [1, 5, 0] gq 0 ys ∧ TII.TbP W OW [1, 5, 1] gt 0 (idx ys) ∧ EInt.L W OW [1, 5, 2] gL 0 (on3 ys) ∧ rsB g2 g3 g4 g7 ca cb cc gq gt gL (.slice A N cap) st' W OW ∧ Cells W OW [1, 5, 3] gn0 0 [.int .i64 (k1 : Int)] ∧ Cells W OW [1, 5, 4] gm0 0 [.int .i64 (k2 : Int)] ∧ Cells W OW [1, 5, 6] gp0 0 [.int .i64 (k : Int)] ∧ Turn [1] w ow0 W OW ∧ Marks (okR 2) W OW ds02) ?_ ?_ ?_ ?_ ?_ ?_ ?_ ?_
          · intro i args hi
            obtain ⟨x, -, rfl⟩ := largs_at3 ys i args hi
            rfl
          · intro k W1 OW1 W2 OW2 ⟨hu, hq, ht, hl, hb, hn, hm, hp, t, hM⟩ tt
            exact ⟨hu.keep tt (by simp), hq.keep tt (by simp) (by simp), ht.keep tt (by simp) (by simp), hl.keep tt (by simp) (fun i j => by simp), hb.keep tt (by simp), hn.keep tt (by simp), hm.keep tt (by simp), hp.keep tt (by simp), t.trans (tt.up (by simp)), hM.keep tt (by rintro x ⟨j, hj, rfl⟩; simp <;> omega)⟩
          · intro c j W1 OW1 W2 OW2 ⟨hc, k, hu, hq, ht, hl, hb, hn, hm, hp, t, hM⟩ tt
            exact ⟨hc, k, hu.keep tt (by simp), hq.keep tt (by simp) (by simp), ht.keep tt (by simp) (by simp), hl.keep tt (by simp) (fun i j => by simp), hb.keep tt (by simp), hn.keep tt (by simp), hm.keep tt (by simp), hp.keep tt (by simp), t.trans (tt.up (by simp)), hM.keep tt (by rintro x ⟨j, hj, rfl⟩; simp <;> omega)⟩
          · intro k W1 OW1 W2 OW2 ⟨hu, hq, ht, hl, hb, hn, hm, hp, t, hM⟩ tt
            exact ⟨hu.keep tt (by simp), hq.keep tt (by simp) (by simp), ht.keep tt (by simp) (by simp), hl.keep tt (by simp) (fun i j => by simp), hb.keep tt (by simp), hn.keep tt (by simp), hm.keep tt (by simp), hp.keep tt (by simp), t.trans (tt.up (by simp)), hM.keep tt (by rintro x ⟨j, hj, rfl⟩; simp <;> omega)⟩
          · intro c j W1 OW1 W2 OW2 ⟨hc, k, hu, hq, ht, hl, hb, hn, hm, hp, t, hM⟩ tt
            exact ⟨hc, k, hu.keep tt (by simp), hq.keep tt (by simp) (by simp), ht.keep tt (by simp) (by simp), hl.keep tt (by simp) (fun i j => by simp), hb.keep tt (by simp), hn.keep tt (by simp), hm.keep tt (by simp), hp.keep tt (by simp), t.trans (tt.up (by simp)), hM.keep tt (by rintro x ⟨j, hj, rfl⟩; simp <;> omega)⟩
          · exact ⟨hu, hq, ht, hl, hb, hn, hm, hp, t, hM⟩
          · intro l' D j rr rb args W4 OW4 hxj hI hBk
            clear hu hq ht hl hb hn hm hp t hM
            obtain ⟨x, hx, rfl⟩ := largs_at3 ys j args hxj
            obtain ⟨hu, hq, ht, hl, hb, hn, hm, hp, t, hM⟩ := hI
            rw [foldl2]
            simp only [List.setIfInBounds_toArray, List.set_cons_succ, List.set_cons_zero]
            gi_wp2
            refine ⟨OW4, Turn.refl _ _ _, hBk, fun W5 ht5 hBk5 => ?_⟩
            replace hu := hu.keep ht5 (by simp)
            replace hq := hq.keep ht5 (by simp) (by simp)
            replace ht := ht.keep ht5 (by simp) (by simp)
            replace hl := hl.keep ht5 (by simp) (fun i j => by simp)
            replace hb := hb.keep ht5 (by simp)
            replace hn := hn.keep ht5 (by simp)
            replace hm := hm.keep ht5 (by simp)
            replace hp := hp.keep ht5 (by simp)
            replace t := t.trans (ht5.up (by simp))
            replace hM := hM.keep ht5 (by rintro x ⟨j, hj, rfl⟩; simp <;> omega)
            have hjl : j < N := by rw [HN.out]; exact (List.getElem?_eq_some_iff.1 hx).1
            obtain ⟨b, off, rfl, d0⟩ := Hc.out.at j x hx
            have lb := World.block_lt_of_cell? w _ d0
            simp only at lb
            have e0 := (t.new_ ow0 [1]).below
            replace e0 := (e0.cell (p := ⟨b, off + j, none⟩) lb).trans d0
            have v2 := hb.1.get0
            have v3 := hb.2.1.get0
            have n0 := hp.get0
            have nf := hp.free 0
            have nl := hp.lt
            have u0 := hu.get0
            have i1 : (j : Int) < (N : Int) := by omega
            clear hx hxj ht5 hBk
            have q1 : ¬ gu = gp0 := fun e => hu.ne hp (by simp) (i := 0) (j := 0) (by simp) (by simp) ⟨e, rfl⟩
            have q2 : ¬ gp0 = gu := fun e => q1 e.symm
            have q3 : ¬ g3 = gp0 := fun e => hb.2.1.ne hp (by simp) (i := 0) (j := 0) (by simp) (by simp) ⟨e, rfl⟩
            have q4 : ¬ gp0 = g3 := fun e => q3 e.symm
            by_cases hs : st' < (j : Int) + 1
            · gi_wp2
              have tk := hp.turn 0 (.int .i64 ((j : Int) + 1)) (by simp)
              exact ⟨OW4, tk.up (by simp), hBk5.setCell _ _, rfl, j + 1, hu.keep tk (by simp), hq.keep tk (by simp) (by simp), ht.keep tk (by simp) (by simp), hl.keep tk (by simp) (fun i j => by simp), hb.keep tk (by simp), hn.keep tk (by simp), hm.keep tk (by simp), hp.set0 _, t.trans (tk.up (by simp)), hM.keep tk (by rintro x ⟨j, hj, rfl⟩; simp <;> omega)⟩
            · gi_wp2
              have tk := hp.turn 0 (.int .i64 ((j : Int) + 1)) (by simp)
              exact ⟨OW4, tk.up (by simp), hBk5.setCell _ _, hu.keep tk (by simp), hq.keep tk (by simp) (by simp), ht.keep tk (by simp) (by simp), hl.keep tk (by simp) (fun i j => by simp), hb.keep tk (by simp), hn.keep tk (by simp), hm.keep tk (by simp), hp.set0 _, t.trans (tk.up (by simp)), hM.keep tk (by rintro x ⟨j, hj, rfl⟩; simp <;> omega)⟩
          · intro D W4 OW4 hI hD oD hDs
            have hfr := hM.fresh hDs
            clear hu hq ht hl hb hn hm hp t hM
            rw [largs_len3, ← HN.out] at hI
            obtain ⟨hu, hq, ht, hl, hb, hn, hm, hp, t, hM⟩ := hI
            exact hK' _ _ ⟨OW4, N, hu, hq, ht, hl, hb, hn, hm, hp, t, ⟨D, rfl, hD, ⟨2, by omega, oD⟩, hfr⟩, hM.mono fun x ⟨j, hj, e⟩ => ⟨j, by omega, e⟩⟩
          · intro D c k' W4 OW4 hk' hI hD oD hDs
            have hfr := hM.fresh hDs
            clear hu hq ht hl hb hn hm hp t hM
            obtain ⟨rfl, k, hu, hq, ht, hl, hb, hn, hm, hp, t, hM⟩ := hI
            go_wp2
            exact ⟨OW4, k, hu, hq, ht, hl, hb, hn, hm, hp, t, ⟨D, rfl, hD, ⟨2, by omega, oD⟩, hfr⟩, hM.mono fun x ⟨j, hj, e⟩ => ⟨j, by omega, e⟩⟩
        clear hu hq ht hl hb hn hm hp t hM
        rintro ds03 w76 ⟨ow76, k3, hu, hq, ht, hl, hb, hn, hm, hp, t, hM⟩
        have u0 := hu.get0
        have lgu := hu.lt
        go_wp2
        clear u0 lgu hn hm hp
        rw [rounds_succ]
        clear hu
        obtain ⟨ow101, hu, nn, -⟩ := add_cells w76 ow76 [1, 9] [.int .i64 1] 3
        generalize w76.alloc (.cells #[.int .i64 1] 3) = w101 at *
        generalize w76.heap.size = gu1 at *
        replace hq := hq.new_ nn
        replace ht := ht.new_ nn
        replace hl := hl.new_ nn
        replace hb := hb.new_ nn
        replace hM := hM.new_ nn
        replace t := t.trans (nn.turn [1])
        clear nn
        have u0 := hu.get0
        go_upto_block 4 with fail
        obtain ⟨ow111, hn, nn, -⟩ := add_cells w101 ow101 [1, 5, 3] [.int .i64 0] 3
        generalize w101.alloc (.cells #[.int .i64 0] 3) = w111 at *
        generalize w101.heap.size = gn1 at *
        replace hu := hu.new_ nn
        replace hq := hq.new_ nn
        replace ht := ht.new_ nn
        replace hl := hl.new_ nn
        replace hb := hb.new_ nn
        replace hM := hM.new_ nn
        replace t := t.trans (nn.turn [1])
        clear nn
        refine cut_defers (fun ds W => ∃ (OW : Ow) (k : Nat), k = N ∧ Cells W OW [1, 9] gu1 0 [.int .i64 1] ∧ Qn W OW [1, 5, 0] gq N ∧ TII.TbP W OW [1, 5, 1] gt 0 (idx ys) ∧ EInt.L W OW [1, 5, 2] gL 0 (on3 ys) ∧ rsB g2 g3 g4 g7 ca cb cc gq gt gL (.slice A N cap) st' W OW ∧ Cells W OW [1, 5, 3] gn1 0 [.int .i64 (k : Int)] ∧ Turn [1] w ow0 W OW ∧ Marks (okR 4) W OW ds) ?_ ?_
        rotate_left
        · intro K' hK'
          go_wp2
          refine wp_rangeN (gf := 116) (lb := #[.pointer (some ⟨ca, 0, none⟩)]) rfl (enters_of Try.func116 (by kernel_rfl) rfl) (EInt.qargs ys) [1, 6] [1, 5] [1, 5, 7, 3] (EInt.q_iterN w111 ow111 [1, 5, 0] [1, 8, 0] [1, 6] [1, 5] gq 0 ca ys hq (by rw [← HN.out]; omega) hb.2.2.2.2.1 (by simp)) (by simp) (by simp) ?_
            (fun (k : Nat) (W : World) (OW : Ow) => Cells W OW [1, 9] gu1 0 [.int .i64 1] ∧ Qn W OW [1, 5, 0] gq N ∧ TII.TbP W OW [1, 5, 1] gt 0 (idx ys) ∧ EInt.L W OW [1, 5, 2] gL 0 (on3 ys) ∧ rsB g2 g3 g4 g7 ca cb cc gq gt gL (.slice A N cap) st' W OW ∧ Cells W OW [1, 5, 3] gn1 0 [.int .i64 (k : Int)] ∧ Turn [1] w ow0 W OW ∧ Marks (okR 3) W OW ds03) (fun _ _ _ _ => False) ?_ ?_ ?_ ?_ ?_ ?_ ?_ ?_
          · intro i args hi
            obtain ⟨x, -, rfl⟩ := EInt.qargs_at ys i args hi
            rfl
          · intro k W1 OW1 W2 OW2 ⟨hu, hq, ht, hl, hb, hn, t, hM⟩ tt
            exact ⟨hu.keep tt (by simp), hq.keep tt (by simp) (by simp), ht.keep tt (by simp) (by simp), hl.keep tt (by simp) (fun i j => by simp), hb.keep tt (by simp), hn.keep tt (by simp), t.trans (tt.up (by simp)), hM.keep tt (by rintro x ⟨j, hj, rfl⟩; simp <;> omega)⟩
          · intro c j W1 OW1 W2 OW2 hf; exact hf.elim
          · intro k W1 OW1 W2 OW2 ⟨hu, hq, ht, hl, hb, hn, t, hM⟩ tt
            exact ⟨hu.keep tt (by simp), hq.keep tt (by simp) (by simp), ht.keep tt (by simp) (by simp), hl.keep tt (by simp) (fun i j => by simp), hb.keep tt (by simp), hn.keep tt (by simp), t.trans (tt.up (by simp)), hM.keep tt (by rintro x ⟨j, hj, rfl⟩; simp <;> omega)⟩
          · intro c j W1 OW1 W2 OW2 hf; exact hf.elim
          · exact ⟨hu, ⟨ys, HN.out.symm, hq⟩, ht, hl, hb, hn, t, hM⟩
          · intro l' D j rr rb args W4 OW4 hxj hI hBk
            clear hu hq ht hl hb hn t hM
            obtain ⟨x, hx, rfl⟩ := EInt.qargs_at ys j args hxj
            obtain ⟨hu, hq, ht, hl, hb, hn, t, hM⟩ := hI
            rw [foldl2]
            simp only [List.setIfInBounds_toArray, List.set_cons_succ, List.set_cons_zero]
            gi_wp2
            refine ⟨OW4, Turn.refl _ _ _, hBk, fun W5 ht5 hBk5 => ?_⟩
            replace hu := hu.keep ht5 (by simp)
            replace hq := hq.keep ht5 (by simp) (by simp)
            replace ht := ht.keep ht5 (by simp) (by simp)
            replace hl := hl.keep ht5 (by simp) (fun i j => by simp)
            replace hb := hb.keep ht5 (by simp)
            replace hn := hn.keep ht5 (by simp)
            replace t := t.trans (ht5.up (by simp))
            replace hM := hM.keep ht5 (by rintro x ⟨j, hj, rfl⟩; simp <;> omega)
            have hjl : j < N := by rw [HN.out]; exact (List.getElem?_eq_some_iff.1 hx).1
            obtain ⟨b, off, rfl, d0⟩ := Hc.out.at j x hx
            have lb := World.block_lt_of_cell? w _ d0
            simp only at lb
            have e0 := (t.new_ ow0 [1]).below
            replace e0 := (e0.cell (p := ⟨b, off + j, none⟩) lb).trans d0
            have v2 := hb.1.get0
            have v3 := hb.2.1.get0
            have n0 := hn.get0
            have nf := hn.free 0
            have nl := hn.lt
            have u0 := hu.get0
            have i1 : (j : Int) < (N : Int) := by omega
            clear hx hxj ht5 hBk
            have q1 : ¬ gu1 = gn1 := fun e => hu.ne hn (by simp) (i := 0) (j := 0) (by simp) (by simp) ⟨e, rfl⟩
            have q2 : ¬ gn1 = gu1 := fun e => q1 e.symm
            have q3 : ¬ g3 = gn1 := fun e => hb.2.1.ne hn (by simp) (i := 0) (j := 0) (by simp) (by simp) ⟨e, rfl⟩
            have q4 : ¬ gn1 = g3 := fun e => q3 e.symm
            gi_wp2_with fail
            have tk := hn.turn 0 (.int .i64 ((j : Int) + 1)) (by simp)
            replace hu := hu.keep tk (by simp)
            replace hq := hq.keep tk (by simp) (by simp)
            replace ht := ht.keep tk (by simp) (by simp)
            replace hl := hl.keep tk (by simp) (fun i j => by simp)
            replace hb := hb.keep tk (by simp)
            replace t := t.trans (tk.up (by simp))
            replace hM := hM.keep tk (by rintro x ⟨j, hj, rfl⟩; simp <;> omega)
            replace hn := hn.set0 (.int .i64 ((j : Int) + 1))
            have T6 : Turn [1, 5] W5 OW4 _ OW4 := tk.up (by simp)
            have hB6 := hBk5.setCell ⟨gn1, 0, none⟩ (.int .i64 ((j : Int) + 1))
            generalize W5.setCell ⟨gn1, 0, none⟩ (.int .i64 ((j : Int) + 1)) = W6 at *
            clear tk hBk5 e0 v2 v3 n0 nf nl u0 q1 q2 q3 q4
            refine ⟨trivial, rfl, callsIn_wide.2 ((Qn.take hq (by omega) (by omega)).mono ?_)⟩
            rintro e W7 ⟨v7, OW7, rfl, hn', tt⟩
            replace hu := hu.keep tt (by simp)
            replace ht := ht.keep tt (by simp) (by simp)
            replace hl := hl.keep tt (by simp) (fun i j => by simp)
            replace hb := hb.keep tt (by simp)
            replace hn := hn.keep tt (by simp)
            replace t := t.trans (tt.up (by simp))
            replace hM := hM.keep tt (by rintro x ⟨j, hj, rfl⟩; simp <;> omega)
            replace T6 := T6.trans (tt.up (by simp))
            replace hB6 := hB6.turn tt (by simp)
            clear hq tt
            have hq := hn'
            clear hn'
            gi_wp2_with fail
            refine ⟨trivial, rfl, callsIn_wide.2 ((Qn.put hq (by omega) (by omega) _).mono ?_)⟩
            rintro e W8 ⟨v8, OW8, rfl, hn', tt⟩
            replace hu := hu.keep tt (by simp)
            replace ht := ht.keep tt (by simp) (by simp)
            replace hl := hl.keep tt (by simp) (fun i j => by simp)
            replace hb := hb.keep tt (by simp)
            replace hn := hn.keep tt (by simp)
            replace t := t.trans (tt.up (by simp))
            replace hM := hM.keep tt (by rintro x ⟨j, hj, rfl⟩; simp <;> omega)
            replace T6 := T6.trans (tt.up (by simp))
            replace hB6 := hB6.turn tt (by simp)
            clear hq tt
            have hq := hn'
            clear hn'
            gi_wp2
            exact ⟨OW8, T6, hB6, hu, hq, ht, hl, hb, hn, t, hM⟩
          · intro D W4 OW4 hI hD oD hDs
            have hfr := hM.fresh hDs
            clear hu hq ht hl hb hn t hM
            rw [EInt.qargs_length, ← HN.out] at hI
            obtain ⟨hu, hq, ht, hl, hb, hn, t, hM⟩ := hI
            exact hK' _ _ ⟨OW4, N, rfl, hu, hq, ht, hl, hb, hn, t, ⟨D, rfl, hD, ⟨3, by omega, oD⟩, hfr⟩, hM.mono fun x ⟨j, hj, e⟩ => ⟨j, by omega, e⟩⟩
          · intro D c j W1 OW1 hj hf; exact hf.elim
        clear hu hq ht hl hb hn t hM
        rintro ds11 w112 ⟨ow112, k1, hkN, hu, hq, ht, hl, hb, hn, t, hM⟩
        rw [hkN] at hn
        clear hq
        clear hkN k1
        go_upto_block 6 with fail
        obtain ⟨ow113, hm, nn, -⟩ := add_cells w112 ow112 [1, 5, 4] [.int .i64 0] 3
        generalize w112.alloc (.cells #[.int .i64 0] 3) = w113 at *
        generalize w112.heap.size = gm1 at *
        replace hu := hu.new_ nn
        replace ht := ht.new_ nn
        replace hl := hl.new_ nn
        replace hb := hb.new_ nn
        replace hn := hn.new_ nn
        replace hM := hM.new_ nn
        replace t := t.trans (nn.turn [1])
        clear nn
        refine cut_defers (fun ds W => ∃ (OW : Ow) (k : Nat), k = N ∧ Cells W OW [1, 9] gu1 0 [.int .i64 1] ∧ Tn W OW [1, 5, 1] gt (N + k) ∧ EInt.L W OW [1, 5, 2] gL 0 (on3 ys) ∧ rsB g2 g3 g4 g7 ca cb cc gq gt gL (.slice A N cap) st' W OW ∧ Cells W OW [1, 5, 3] gn1 0 [.int .i64 (N : Int)] ∧ Cells W OW [1, 5, 4] gm1 0 [.int .i64 (k : Int)] ∧ Turn [1] w ow0 W OW ∧ Marks (okR 5) W OW ds) ?_ ?_
        rotate_left
        · intro K' hK'
          go_wp2
          refine wp_rangeN (gf := 127) (lb := #[.pointer (some ⟨cb, 0, none⟩)]) rfl (enters_of Try.func127 (by kernel_rfl) rfl) (TII.targs (idx ys)) [1, 6] [1, 5] [1, 5, 7, 4] (TII.t_iterN w113 ow113 [1, 5, 1] [1, 8, 1] [1, 6] [1, 5] gt 0 cb (idx ys) ht (by rw [idx_length, ← HN.out]; omega) hb.2.2.2.2.2.1 (by simp)) (by simp) (by simp) ?_
            (fun (k : Nat) (W : World) (OW : Ow) => Cells W OW [1, 9] gu1 0 [.int .i64 1] ∧ Tn W OW [1, 5, 1] gt (N + k) ∧ EInt.L W OW [1, 5, 2] gL 0 (on3 ys) ∧ rsB g2 g3 g4 g7 ca cb cc gq gt gL (.slice A N cap) st' W OW ∧ Cells W OW [1, 5, 3] gn1 0 [.int .i64 (N : Int)] ∧ Cells W OW [1, 5, 4] gm1 0 [.int .i64 (k : Int)] ∧ Turn [1] w ow0 W OW ∧ Marks (okR 4) W OW ds11) (fun _ _ _ _ => False) ?_ ?_ ?_ ?_ ?_ ?_ ?_ ?_
          · intro i args hi
            obtain ⟨x, -, rfl⟩ := targs_idx ys i args hi
            rfl
          · intro k W1 OW1 W2 OW2 ⟨hu, ht, hl, hb, hn, hm, t, hM⟩ tt
            exact ⟨hu.keep tt (by simp), ht.keep tt (by simp) (by simp), hl.keep tt (by simp) (fun i j => by simp), hb.keep tt (by simp), hn.keep tt (by simp), hm.keep tt (by simp), t.trans (tt.up (by simp)), hM.keep tt (by rintro x ⟨j, hj, rfl⟩; simp <;> omega)⟩
          · intro c j W1 OW1 W2 OW2 hf; exact hf.elim
          · intro k W1 OW1 W2 OW2 ⟨hu, ht, hl, hb, hn, hm, t, hM⟩ tt
            exact ⟨hu.keep tt (by simp), ht.keep tt (by simp) (by simp), hl.keep tt (by simp) (fun i j => by simp), hb.keep tt (by simp), hn.keep tt (by simp), hm.keep tt (by simp), t.trans (tt.up (by simp)), hM.keep tt (by rintro x ⟨j, hj, rfl⟩; simp <;> omega)⟩
          · intro c j W1 OW1 W2 OW2 hf; exact hf.elim
          · exact ⟨hu, ⟨idx ys, idx_rise ys, by rw [idx_length, ← HN.out]; omega, ht⟩, hl, hb, hn, hm, t, hM⟩
          · intro l' D j rr rb args W4 OW4 hxj hI hBk
            clear hu ht hl hb hn hm t hM
            obtain ⟨x, hx, rfl⟩ := targs_idx ys j args hxj
            obtain ⟨hu, ht, hl, hb, hn, hm, t, hM⟩ := hI
            rw [foldl2]
            simp only [List.setIfInBounds_toArray, List.set_cons_succ, List.set_cons_zero]
            gi_wp2
            refine ⟨OW4, Turn.refl _ _ _, hBk, fun W5 ht5 hBk5 => ?_⟩
            replace hu := hu.keep ht5 (by simp)
            replace ht := ht.keep ht5 (by simp) (by simp)
            replace hl := hl.keep ht5 (by simp) (fun i j => by simp)
            replace hb := hb.keep ht5 (by simp)
            replace hn := hn.keep ht5 (by simp)
            replace hm := hm.keep ht5 (by simp)
            replace t := t.trans (ht5.up (by simp))
            replace hM := hM.keep ht5 (by rintro x ⟨j, hj, rfl⟩; simp <;> omega)
            have hjl : j < N := by rw [HN.out]; exact (List.getElem?_eq_some_iff.1 hx).1
            obtain ⟨b, off, rfl, d0⟩ := Hc.out.at j x hx
            have lb := World.block_lt_of_cell? w _ d0
            simp only at lb
            have e0 := (t.new_ ow0 [1]).below
            replace e0 := (e0.cell (p := ⟨b, off + j, none⟩) lb).trans d0
            have v2 := hb.1.get0
            have v3 := hb.2.1.get0
            have n0 := hm.get0
            have nf := hm.free 0
            have nl := hm.lt
            have u0 := hu.get0
            have i1 : (j : Int) < (N : Int) := by omega
            clear hx hxj ht5 hBk
            have q1 : ¬ gu1 = gm1 := fun e => hu.ne hm (by simp) (i := 0) (j := 0) (by simp) (by simp) ⟨e, rfl⟩
            have q2 : ¬ gm1 = gu1 := fun e => q1 e.symm
            have q3 : ¬ g3 = gm1 := fun e => hb.2.1.ne hm (by simp) (i := 0) (j := 0) (by simp) (by simp) ⟨e, rfl⟩
            have q4 : ¬ gm1 = g3 := fun e => q3 e.symm
            gi_wp2_with fail
            have tk := hm.turn 0 (.int .i64 ((j : Int) + 1)) (by simp)
            replace hu := hu.keep tk (by simp)
            replace ht := ht.keep tk (by simp) (by simp)
            replace hl := hl.keep tk (by simp) (fun i j => by simp)
            replace hb := hb.keep tk (by simp)
            replace hn := hn.keep tk (by simp)
            replace t := t.trans (tk.up (by simp))
            replace hM := hM.keep tk (by rintro x ⟨j, hj, rfl⟩; simp <;> omega)
            replace hm := hm.set0 (.int .i64 ((j : Int) + 1))
            have T6 : Turn [1, 5] W5 OW4 _ OW4 := tk.up (by simp)
            have hB6 := hBk5.setCell ⟨gm1, 0, none⟩ (.int .i64 ((j : Int) + 1))
            generalize W5.setCell ⟨gm1, 0, none⟩ (.int .i64 ((j : Int) + 1)) = W6 at *
            clear tk hBk5 e0 v2 v3 n0 nf nl u0 q1 q2 q3 q4
            refine ⟨trivial, rfl, callsIn_wide.2 ((Tn.del ht (by omega) _).mono ?_)⟩
            rintro e W7 ⟨v7, OW7, rfl, hn', tt⟩
            replace hu := hu.keep tt (by simp)
            replace hl := hl.keep tt (by simp) (fun i j => by simp)
            replace hb := hb.keep tt (by simp)
            replace hn := hn.keep tt (by simp)
            replace hm := hm.keep tt (by simp)
            replace t := t.trans (tt.up (by simp))
            replace hM := hM.keep tt (by rintro x ⟨j, hj, rfl⟩; simp <;> omega)
            replace T6 := T6.trans (tt.up (by simp))
            replace hB6 := hB6.turn tt (by simp)
            clear ht tt
            have ht := hn'
            clear hn'
            gi_wp2_with fail
            refine ⟨trivial, rfl, callsIn_wide.2 ((Tn.set ht (by omega) _ _).mono ?_)⟩
            rintro e W8 ⟨v8, OW8, rfl, hn', tt⟩
            replace hu := hu.keep tt (by simp)
            replace hl := hl.keep tt (by simp) (fun i j => by simp)
            replace hb := hb.keep tt (by simp)
            replace hn := hn.keep tt (by simp)
            replace hm := hm.keep tt (by simp)
            replace t := t.trans (tt.up (by simp))
            replace hM := hM.keep tt (by rintro x ⟨j, hj, rfl⟩; simp <;> omega)
            replace T6 := T6.trans (tt.up (by simp))
            replace hB6 := hB6.turn tt (by simp)
            clear ht tt
            have ht := hn'
            clear hn'
            gi_wp2
            exact ⟨OW8, T6, hB6, hu, ht, hl, hb, hn, hm, t, hM⟩
          · intro D W4 OW4 hI hD oD hDs
            have hfr := hM.fresh hDs
            clear hu ht hl hb hn hm t hM
            rw [targs_idx_length, ← HN.out] at hI
            obtain ⟨hu, ht, hl, hb, hn, hm, t, hM⟩ := hI
            exact hK' _ _ ⟨OW4, N, rfl, hu, ht, hl, hb, hn, hm, t, ⟨D, rfl, hD, ⟨4, by omega, oD⟩, hfr⟩, hM.mono fun x ⟨j, hj, e⟩ => ⟨j, by omega, e⟩⟩
          · intro D c j W1 OW1 hj hf; exact hf.elim
        clear hu ht hl hb hn hm t hM
        rintro ds12 w114 ⟨ow114, k2, hkN, hu, ht, hl, hb, hn, hm, t, hM⟩
        rw [hkN] at hm
        clear ht
        clear hkN k2
        go_upto_block 8 with fail
        obtain ⟨ow115, hp, nn, -⟩ := add_cells w114 ow114 [1, 5, 6] [.int .i64 0] 3
        generalize w114.alloc (.cells #[.int .i64 0] 3) = w115 at *
        generalize w114.heap.size = gp1 at *
        replace hu := hu.new_ nn
        replace hl := hl.new_ nn
        replace hb := hb.new_ nn
        replace hn := hn.new_ nn
        replace hm := hm.new_ nn
        replace hM := hM.new_ nn
        replace t := t.trans (nn.turn [1])
        clear nn
        refine cut_defers (fun ds W => ∃ (OW : Ow) (k : Nat), k = N ∧ Cells W OW [1, 9] gu1 0 [.int .i64 1] ∧ Ln W OW [1, 5, 2] gL (100 + k) ∧ rsB g2 g3 g4 g7 ca cb cc gq gt gL (.slice A N cap) st' W OW ∧ Cells W OW [1, 5, 3] gn1 0 [.int .i64 (N : Int)] ∧ Cells W OW [1, 5, 4] gm1 0 [.int .i64 (N : Int)] ∧ Cells W OW [1, 5, 6] gp1 0 [.int .i64 (k : Int)] ∧ Turn [1] w ow0 W OW ∧ Marks (okR 6) W OW ds) ?_ ?_
        rotate_left
        · intro K' hK'
          go_wp2
          refine wp_rangeN (gf := 129) (lb := #[.pointer (some ⟨cc, 0, none⟩)]) rfl (enters_of Try.func129 (by kernel_rfl) rfl) (EInt.largs (on3 ys)) [1, 6] [1, 5] [1, 5, 7, 5] (EInt.l_iterN w115 ow115 [1, 5, 2] [1, 8, 2] [1, 6] [1, 5] gL 0 cc (on3 ys) hl (fun l hx => by have := on3_small ys (by rw [← HN.out]; omega) l hx; omega) (by simp [on3]) hb.2.2.2.2.2.2 (fun s => by simp) (by simp) (fun i j => by simp) (by simp)) (by simp) (by simp) ?_
            (fun (k : Nat) (W : World) (OW : Ow) => Cells W OW [1, 9] gu1 0 [.int .i64 1] ∧ Ln W OW [1, 5, 2] gL (100 + k) ∧ rsB g2 g3 g4 g7 ca cb cc gq gt gL (.slice A N cap) st' W OW ∧ Cells W OW [1, 5, 3] gn1 0 [.int .i64 (N : Int)] ∧ Cells W OW [1, 5, 4] gm1 0 [.int .i64 (N : Int)] ∧ Cells W OW [1, 5, 6] gp1 0 [.int .i64 (k : Int)] ∧ Turn [1] w ow0 W OW ∧ Marks (okR 5) W OW ds12) (fun _ _ _ _ => False) ?_ ?_ ?_ ?_ ?_ ?_ ?_ ?_
          · intro i args hi
            obtain ⟨x, -, rfl⟩ := largs_at3 ys i args hi
            rfl
          · intro k W1 OW1 W2 OW2 ⟨hu, hl, hb, hn, hm, hp, t, hM⟩ tt
            exact ⟨hu.keep tt (by simp), hl.keep tt (by simp) (fun i j => by simp), hb.keep tt (by simp), hn.keep tt (by simp), hm.keep tt (by simp), hp.keep tt (by simp), t.trans (tt.up (by simp)), hM.keep tt (by rintro x ⟨j, hj, rfl⟩; simp <;> omega)⟩
          · intro c j W1 OW1 W2 OW2 hf; exact hf.elim
          · intro k W1 OW1 W2 OW2 ⟨hu, hl, hb, hn, hm, hp, t, hM⟩ tt
            exact ⟨hu.keep tt (by simp), hl.keep tt (by simp) (fun i j => by simp), hb.keep tt (by simp), hn.keep tt (by simp), hm.keep tt (by simp), hp.keep tt (by simp), t.trans (tt.up (by simp)), hM.keep tt (by rintro x ⟨j, hj, rfl⟩; simp <;> omega)⟩
          · intro c j W1 OW1 W2 OW2 hf; exact hf.elim
          · exact ⟨hu, ⟨on3 ys, Five.on3 ys (by rw [← HN.out]; omega) (by rw [← HN.out]; omega), hl⟩, hb, hn, hm, hp, t, hM⟩
          · intro l' D j rr rb args W4 OW4 hxj hI hBk
            clear hu hl hb hn hm hp t hM
            obtain ⟨x, hx, rfl⟩ := largs_at3 ys j args hxj
            obtain ⟨hu, hl, hb, hn, hm, hp, t, hM⟩ := hI
            rw [foldl2]
            simp only [List.setIfInBounds_toArray, List.set_cons_succ, List.set_cons_zero]
            gi_wp2
            refine ⟨OW4, Turn.refl _ _ _, hBk, fun W5 ht5 hBk5 => ?_⟩
            replace hu := hu.keep ht5 (by simp)
            replace hl := hl.keep ht5 (by simp) (fun i j => by simp)
            replace hb := hb.keep ht5 (by simp)
            replace hn := hn.keep ht5 (by simp)
            replace hm := hm.keep ht5 (by simp)
            replace hp := hp.keep ht5 (by simp)
            replace t := t.trans (ht5.up (by simp))
            replace hM := hM.keep ht5 (by rintro x ⟨j, hj, rfl⟩; simp <;> omega)
            have hjl : j < N := by rw [HN.out]; exact (List.getElem?_eq_some_iff.1 hx).1
            obtain ⟨b, off, rfl, d0⟩ := Hc.out.at j x hx
            have lb := World.block_lt_of_cell? w _ d0
            simp only at lb
            have e0 := (t.new_ ow0 [1]).below
            replace e0 := (e0.cell (p := ⟨b, off + j, none⟩) lb).trans d0
            have v2 := hb.1.get0
            have v3 := hb.2.1.get0
            have n0 := hp.get0
            have nf := hp.free 0
            have nl := hp.lt
            have u0 := hu.get0
            have i1 : (j : Int) < (N : Int) := by omega
            clear hx hxj ht5 hBk
            have q1 : ¬ gu1 = gp1 := fun e => hu.ne hp (by simp) (i := 0) (j := 0) (by simp) (by simp) ⟨e, rfl⟩
            have q2 : ¬ gp1 = gu1 := fun e => q1 e.symm
            have q3 : ¬ g3 = gp1 := fun e => hb.2.1.ne hp (by simp) (i := 0) (j := 0) (by simp) (by simp) ⟨e, rfl⟩
            have q4 : ¬ gp1 = g3 := fun e => q3 e.symm
            have v7 := hb.2.2.2.1.get0
            have q5 : ¬ g7 = gp1 := fun e => hb.2.2.2.1.ne hp (by simp) (i := 0) (j := 0) (by simp) (by simp) ⟨e, rfl⟩
            have q6 : ¬ gp1 = g7 := fun e => q5 e.symm
            gi_wp2_with fail
            have tk := hp.turn 0 (.int .i64 ((j : Int) + 1)) (by simp)
            replace hu := hu.keep tk (by simp)
            replace hl := hl.keep tk (by simp) (fun i j => by simp)
            replace hb := hb.keep tk (by simp)
            replace hn := hn.keep tk (by simp)
            replace hm := hm.keep tk (by simp)
            replace t := t.trans (tk.up (by simp))
            replace hM := hM.keep tk (by rintro x ⟨j, hj, rfl⟩; simp <;> omega)
            replace hp := hp.set0 (.int .i64 ((j : Int) + 1))
            have T6 : Turn [1, 5] W5 OW4 _ OW4 := tk.up (by simp)
            have hB6 := hBk5.setCell ⟨gp1, 0, none⟩ (.int .i64 ((j : Int) + 1))
            generalize W5.setCell ⟨gp1, 0, none⟩ (.int .i64 ((j : Int) + 1)) = W6 at *
            clear tk hBk5 e0 v2 v3 n0 nf nl u0 q1 q2 q3 q4
            clear v7 q5 q6
            refine ⟨trivial, rfl, callsIn_wide.2 ((Ln.take hl (by omega)).mono ?_)⟩
            rintro e W7 ⟨v7, OW7, rfl, hn', tt⟩
            replace hu := hu.keep tt (by simp)
            replace hb := hb.keep tt (by simp)
            replace hn := hn.keep tt (by simp)
            replace hm := hm.keep tt (by simp)
            replace hp := hp.keep tt (by simp)
            replace t := t.trans (tt.up (by simp))
            replace hM := hM.keep tt (by rintro x ⟨j, hj, rfl⟩; simp <;> omega)
            replace T6 := T6.trans (tt.up (by simp))
            replace hB6 := hB6.turn tt (by simp)
            clear hl tt
            have hl := hn'
            clear hn'
            have v7 := hb.2.2.2.1.get0
            gi_wp2_with fail
            clear v7
            refine ⟨trivial, rfl, callsIn_wide.2 ((Ln.put hl (by omega)).mono ?_)⟩
            rintro e W8 ⟨v8, OW8, rfl, hn', tt⟩
            replace hu := hu.keep tt (by simp)
            replace hb := hb.keep tt (by simp)
            replace hn := hn.keep tt (by simp)
            replace hm := hm.keep tt (by simp)
            replace hp := hp.keep tt (by simp)
            replace t := t.trans (tt.up (by simp))
            replace hM := hM.keep tt (by rintro x ⟨j, hj, rfl⟩; simp <;> omega)
            replace T6 := T6.trans (tt.up (by simp))
            replace hB6 := hB6.turn tt (by simp)
            clear hl tt
            have hl := hn'
            clear hn'
            gi_wp2
            exact ⟨OW8, T6, hB6, hu, hl, hb, hn, hm, hp, t, hM⟩
          · intro D W4 OW4 hI hD oD hDs
            have hfr := hM.fresh hDs
            clear hu hl hb hn hm hp t hM
            rw [largs_len3, ← HN.out] at hI
            obtain ⟨hu, hl, hb, hn, hm, hp, t, hM⟩ := hI
            exact hK' _ _ ⟨OW4, N, rfl, hu, hl, hb, hn, hm, hp, t, ⟨D, rfl, hD, ⟨5, by omega, oD⟩, hfr⟩, hM.mono fun x ⟨j, hj, e⟩ => ⟨j, by omega, e⟩⟩
          · intro D c j W1 OW1 hj hf; exact hf.elim
        clear hu hl hb hn hm hp t hM
        rintro ds13 w116 ⟨ow116, k3, hkN, hu, hl, hb, hn, hm, hp, t, hM⟩
        rw [hkN] at hp
        clear hl
        clear hkN k3
        have u0 := hu.get0
        have lgu := hu.lt
        have v2 := hb.1.get0
        have n0 := hn.get0
        have m0 := hm.get0
        have p0 := hp.get0
        go_wp2
        clear u0 lgu v2 n0 m0 p0 hn hm hp
        rw [rounds_succ]
        clear hu
        obtain ⟨ow141, hu, nn, -⟩ := add_cells w116 ow116 [1, 9] [.int .i64 2] 3
        generalize w116.alloc (.cells #[.int .i64 2] 3) = w141 at *
        generalize w116.heap.size = gu2 at *
        replace hb := hb.new_ nn
        replace hM := hM.new_ nn
        replace t := t.trans (nn.turn [1])
        clear nn
        have u0 := hu.get0
        go_wp2_with fail
        clear u0
        refine (runs w141).mono ?_
        rintro e w142 ⟨rfl, bb⟩
        have nn := bb.nw ow141
        replace hb := hb.new_ nn
        replace hM := hM.new_ nn
        replace hu := hu.new_ nn
        replace t := t.trans (nn.turn [1])
        clear nn
        clear bb
        have r0 := hb.2.2.1.get0
        have fr := hb.2.2.1.free 0
        have lr := hb.2.2.1.lt
        have tt := hb.2.2.1.turn 0 (.bool true) (by simp)
        have hr2 := hb.2.2.1.set0 (.bool true)
        have hM2 := hM.keep tt (by rintro x ⟨j, hj, rfl⟩; simp)
        have fin := t.trans (tt.up (by simp))
        clear hb hu hM t tt
        go_wp2
        refine bodyM_ret (ok := okR 6) [1, 5, 7] (by rintro x ⟨j, hj, rfl⟩; simp) hM2 fun W' t' => ⟨.bool true, ?_, rfl, ((fin.trans (t'.up (by simp))).new_ ow0 [1]).below⟩
        have r0 := (hr2.keep t' (by simp)).get0
        simp [results, Try.results13, go_sem, r0]

end RG
end Go.Proofs.Ytppikbdeopagkaa
