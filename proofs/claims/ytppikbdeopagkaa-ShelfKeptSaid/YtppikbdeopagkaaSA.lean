/-
  LAW 1: ShelfApart: two containers know nothing of one another: the walk.
-/
import Derived.Test.YtppikbdeopagkaaSR
import Derived.Test.YtppikbdeopagkaaEOpP
import Derived.Test.YtppikbdeopagkaaTNIP
import Derived.Test.YtppikbdeopagkaaEIntS
import Derived.Test.YtppikbdeopagkaaENumS
import Derived.Test.YtppikbdeopagkaaEIntQ2
import Derived.Test.YtppikbdeopagkaaCalc
import Derived.Deep.DeepCutAuto
set_option linter.unusedVariables false
set_option linter.unusedSimpArgs false
namespace Go.Proofs.Ytppikbdeopagkaa
open Go Go.RowKit
namespace SH

/-- What three containers hold. -/
structure T3 where
  s : List Int
  q : List Int
  t : List TNI.R
def doT (x : T3) (o : Op1) : T3 := if o.kind = 0 then ⟨x.s ++ [o.n], x.q ++ [o.n], TNI.setT x.t o.level o.n⟩ else ⟨x.s.dropLast, x.q.tail, TNI.delT x.t o.level⟩
/-- Three containers, under [1, c]. -/
def Hold (w : World) (ow : Ow) (c g1 g2 g3 : Nat) (x : T3) : Prop :=
  EInt.St w ow [1, c, 0] g1 0 x.s ∧ EInt.Q w ow [1, c, 1] g2 0 x.q ∧ TNI.TbP w ow [1, c, 2] g3 0 x.t ∧ TNI.Rise x.t
def Few3 (x : T3) (n : Nat) : Prop := x.s.length ≤ n ∧ x.q.length ≤ n ∧ x.t.length ≤ n
theorem Hold.keep {w w1 : World} {ow ow1 : Ow} {c d g1 g2 g3 : Nat} {x : T3} (h : Hold w ow c g1 g2 g3 x) (t : Turn [1, d] w ow w1 ow1) (hd : d ≠ c) : Hold w1 ow1 c g1 g2 g3 x :=
  ⟨h.1.keep t (by simp [hd]) (by simp [hd]), h.2.1.keep t (by simp [hd]) (by simp [hd]), h.2.2.1.keep t (by simp [hd]) (by simp [hd]), h.2.2.2⟩
theorem Hold.new_ {w w1 : World} {ow ow1 : Ow} {c g1 g2 g3 : Nat} {x : T3} (h : Hold w ow c g1 g2 g3 x) (t : New w ow w1 ow1) : Hold w1 ow1 c g1 g2 g3 x :=
  ⟨h.1.new_ t, h.2.1.new_ t, h.2.2.1.new_ t, h.2.2.2⟩
theorem Few3.step {x : T3} {n : Nat} (h : Few3 x n) (hR : TNI.Rise x.t) (o : Op1) : Few3 (doT x o) (n + 1) ∧ TNI.Rise (doT x o).t := by
  obtain ⟨h1, h2, h3⟩ := h
  unfold doT
  split
  · have := TNI.setT_length x.t hR o.level o.n
    refine ⟨⟨by simp; omega, by simp; omega, ?_⟩, TNI.setT_rise x.t hR _ _⟩
    show (TNI.setT x.t o.level o.n).length ≤ n + 1
    rw [this]; split <;> omega
  · have := TNI.delT_length x.t o.level
    refine ⟨⟨by simp; omega, by simp; omega, ?_⟩, TNI.delT_rise x.t hR _⟩
    show (TNI.delT x.t o.level).length ≤ n + 1
    omega
theorem s_popQ (w : World) (ow : Ow) (p : List Nat) (g o : Nat) (xs : List Int) (h : EInt.St w ow p g o xs) (hn : xs.length ≤ 1099511627776) :
    Calls Try.prog 16 #[.pointer (some ⟨g, o, none⟩)] w fun e w' => ∃ v ow', e = .returned v ∧ EInt.St w' ow' p g o xs.dropLast ∧ Turn p w ow w' ow' := by
  rcases List.eq_nil_or_concat xs with rfl | ⟨ys, x, rfl⟩
  · refine (EInt.s_pop_none w ow p g o h).mono ?_
    rintro e w1 ⟨rfl, b⟩
    exact ⟨_, ow, rfl, h.new_ (b.nw ow), (b.nw ow).turn p⟩
  · rw [List.concat_eq_append] at h hn ⊢
    rw [List.length_append, List.length_cons, List.length_nil] at hn
    refine (EInt.s_pop_some w ow p g o ys x h (by omega)).mono ?_
    rintro e w1 ⟨ow1, rfl, h1, t1⟩
    exact ⟨_, ow1, rfl, by rw [List.dropLast_concat]; exact h1, t1⟩
theorem q_takeQ (w : World) (ow : Ow) (p : List Nat) (g o : Nat) (xs : List Int) (h : EInt.Q w ow p g o xs) (hn : xs.length ≤ 1099511627776) :
    Calls Try.prog 50 #[.pointer (some ⟨g, o, none⟩)] w fun e w' => ∃ v ow', e = .returned v ∧ EInt.Q w' ow' p g o xs.tail ∧ Turn p w ow w' ow' := by
  cases xs with
  | nil =>
    refine (EInt.q_take_none w ow p g o h).mono ?_
    rintro e w1 ⟨rfl, b⟩
    exact ⟨_, ow, rfl, h.new_ (b.nw ow), (b.nw ow).turn p⟩
  | cons x xs =>
    rw [List.length_cons] at hn
    refine (EInt.q_take_some w ow p g o x xs h hn).mono ?_
    rintro e w1 ⟨ow1, rfl, h1, t1⟩
    exact ⟨_, ow1, rfl, h1, t1⟩

def ActP (w : World) (ow : Ow) (c g1 g2 g3 : Nat) (x : T3) (e : Ending) (w' : World) : Prop := ∃ ow', e = .returned (.tuple #[]) ∧ Hold w' ow' c g1 g2 g3 x ∧ Turn [1, c] w ow w' ow'
set_option maxRecDepth 100000 in
set_option maxHeartbeats 4000000 in
theorem act (w : World) (ow : Ow) (c g1 g2 g3 : Nat) (x : T3) (o : Op1) (h : Hold w ow c g1 g2 g3 x) (hf : Few3 x 100000) :
    Calls Try.prog 62 #[.pointer (some ⟨g1, 0, none⟩), .pointer (some ⟨g2, 0, none⟩), .pointer (some ⟨g3, 0, none⟩), .agg #[.int .i64 o.kind, .int .i64 o.level, .int .i64 o.n]] w (ActP w ow c g1 g2 g3 (doT x o)) := by
  obtain ⟨f1, f2, f3⟩ := hf
  go_enter Try.func62, Try.ntmps62
  go_upto_if 10 with fail
  refine gen_world (fun W => ∃ ow1, Hold W ow1 c g1 g2 g3 x ∧ Cells W ow1 [9] w.heap.size 0 [.int .i64 o.kind, .int .i64 o.level, .int .i64 o.n] ∧ New w ow W ow1) ⟨ow.set w.heap.size [9], h.new_ ((New.refl _ _).alloc _ _), Cells.new w ow [9] [.int .i64 o.kind, .int .i64 o.level, .int .i64 o.n] _, (New.refl _ _).alloc _ _⟩ ?_
  rintro w0 ⟨ow0, ⟨hs, hq, ht, hR⟩, hx, n0⟩
  generalize w.heap.size = gx at *
  have t0 := n0.turn [1, c]
  have x1 := hx.get 1 rfl
  have x2 := hx.get 2 rfl
  simp only [Nat.zero_add] at x1 x2
  clear h n0
  by_cases hk0 : o.kind = 0
  · have b0 : (o.kind == 0) = true := beq_iff_eq.2 hk0
    have hd : doT x o = ⟨x.s ++ [o.n], x.q ++ [o.n], TNI.setT x.t o.level o.n⟩ := if_pos hk0
    rw [hd]
    clear hd hk0
    go_wp2_with fail
    refine (EInt.s_push w0 ow0 [1, c, 0] g1 0 x.s o.n hs (by omega)).mono ?_
    rintro e w1 ⟨ow1, rfl, hs1, t1⟩
    have hq1 := hq.keep t1 (by simp) (by simp)
    have ht1 := ht.keep t1 (by simp) (by simp)
    have hx := hx.keep t1 (by simp)
    have x1 := hx.get 1 rfl
    have x2 := hx.get 2 rfl
    simp only [Nat.zero_add] at x1 x2
    have t1 := t0.trans (t1.up (by simp))
    clear hs hq ht t0
    go_wp2_with fail
    refine (EInt.q_put w1 ow1 [1, c, 1] g2 0 x.q o.n hq1 (by omega)).mono ?_
    rintro e w2 ⟨ow2, rfl, hq2, t2⟩
    have hs2 := hs1.keep t2 (by simp) (by simp)
    have ht2 := ht1.keep t2 (by simp) (by simp)
    have hx := hx.keep t2 (by simp)
    have x1 := hx.get 1 rfl
    have x2 := hx.get 2 rfl
    simp only [Nat.zero_add] at x1 x2
    have t2 := t1.trans (t2.up (by simp))
    clear hs1 hq1 ht1 t1
    go_wp2_with fail
    refine (TNI.setQ w2 ow2 [1, c, 2] g3 0 x.t o.level o.n ht2 hR (by omega)).mono ?_
    rintro e w3 ⟨ow3, rfl, ht3, t3⟩
    have hs3 := hs2.keep t3 (by simp) (by simp)
    have hq3 := hq2.keep t3 (by simp) (by simp)
    have t3 := t2.trans (t3.up (by simp))
    clear hs2 hq2 ht2 t2
    go_wp2
    go_end0
    exact ⟨ow3, rfl, ⟨hs3, hq3, ht3, TNI.setT_rise x.t hR _ _⟩, t3⟩
  · have b0 : (o.kind == 0) = false := beq_eq_false_iff_ne.2 hk0
    have hd : doT x o = ⟨x.s.dropLast, x.q.tail, TNI.delT x.t o.level⟩ := if_neg hk0
    rw [hd]
    clear hd hk0
    go_wp2_with fail
    refine (s_popQ w0 ow0 [1, c, 0] g1 0 x.s hs (by omega)).mono ?_
    rintro e w1 ⟨v1, ow1, rfl, hs1, t1⟩
    have hq1 := hq.keep t1 (by simp) (by simp)
    have ht1 := ht.keep t1 (by simp) (by simp)
    have hx := hx.keep t1 (by simp)
    have x1 := hx.get 1 rfl
    have x2 := hx.get 2 rfl
    simp only [Nat.zero_add] at x1 x2
    have t1 := t0.trans (t1.up (by simp))
    clear hs hq ht t0
    go_wp2_with fail
    refine (q_takeQ w1 ow1 [1, c, 1] g2 0 x.q hq1 (by omega)).mono ?_
    rintro e w2 ⟨v2, ow2, rfl, hq2, t2⟩
    have hs2 := hs1.keep t2 (by simp) (by simp)
    have ht2 := ht1.keep t2 (by simp) (by simp)
    have hx := hx.keep t2 (by simp)
    have x1 := hx.get 1 rfl
    have x2 := hx.get 2 rfl
    simp only [Nat.zero_add] at x1 x2
    have t2 := t1.trans (t2.up (by simp))
    clear hs1 hq1 ht1 t1
    go_wp2_with fail
    refine (TNI.delQ w2 ow2 [1, c, 2] g3 0 x.t o.level ht2 hR (by omega)).mono ?_
    rintro e w3 ⟨ow3, rfl, ht3, t3⟩
    have hs3 := hs2.keep t3 (by simp) (by simp)
    have hq3 := hq2.keep t3 (by simp) (by simp)
    have t3 := t2.trans (t3.up (by simp))
    clear hs2 hq2 ht2 t2
    go_wp2
    go_end0
    exact ⟨ow3, rfl, ⟨hs3, hq3, ht3, TNI.delT_rise x.t hR _⟩, t3⟩

def apRel (w : World) (g5 g6 g7 g8 g9 g10 g11 g12 g13 : Nat) (al bl : List Op1) (gn : Nat) (i : Value) (wr : World) : Prop :=
  ∃ (k : Nat) (OW : Ow) (xa xb : T3), gn = max al.length bl.length - k ∧ k ≤ max al.length bl.length ∧ i = .int .i64 (k : Int) ∧ Few3 xa k ∧ Few3 xb k ∧ Hold wr OW 0 g5 g8 g11 xa ∧ Hold wr OW 1 g6 g9 g12 xb ∧ Hold wr OW 2 g7 g10 g13 xa ∧ Turn [1] w ow0 wr OW

def nineP (w : World) (W : World) : Prop := ∃ OW : Ow, Hold W OW 0 (w.heap.size) (w.heap.size + 1 + 1 + 1) (w.heap.size + 1 + 1 + 1 + 1 + 1 + 1) ⟨[], [], []⟩ ∧ Hold W OW 1 (w.heap.size + 1) (w.heap.size + 1 + 1 + 1 + 1) (w.heap.size + 1 + 1 + 1 + 1 + 1 + 1 + 1) ⟨[], [], []⟩ ∧ Hold W OW 2 (w.heap.size + 1 + 1) (w.heap.size + 1 + 1 + 1 + 1 + 1) (w.heap.size + 1 + 1 + 1 + 1 + 1 + 1 + 1 + 1) ⟨[], [], []⟩ ∧ Turn [1] w ow0 W OW
theorem add_cells (w : World) (ow : Ow) (q : List Nat) (cs : List Value) (e : TypeId) : ∃ ow', Cells (w.alloc (.cells cs.toArray e)) ow' q w.heap.size 0 cs ∧ New w ow (w.alloc (.cells cs.toArray e)) ow' ∧ (w.alloc (.cells cs.toArray e)).heap.size = w.heap.size + 1 :=
  ⟨_, Cells.new w ow q cs e, (New.refl _ _).alloc _ _, by simp [World.alloc_eq]⟩
set_option maxHeartbeats 1000000 in
theorem nine (w : World) (a b c : TypeId) : nineP w (((((((((w.alloc (.cells #[.slice none 0 0] a)).alloc (.cells #[.slice none 0 0] a)).alloc (.cells #[.slice none 0 0] a)).alloc (.cells #[.slice none 0 0, .int .i64 0] b)).alloc (.cells #[.slice none 0 0, .int .i64 0] b)).alloc (.cells #[.slice none 0 0, .int .i64 0] b)).alloc (.cells #[.slice none 0 0] c)).alloc (.cells #[.slice none 0 0] c)).alloc (.cells #[.slice none 0 0] c)) := by
  obtain ⟨o0, c0, n0, z0⟩ := add_cells w ow0 [1, 0, 0, 0] [.slice none 0 0] a
  generalize w.alloc (.cells #[.slice none 0 0] a) = w0 at *
  obtain ⟨o1, c1, n1, z1⟩ := add_cells w0 o0 [1, 1, 0, 0] [.slice none 0 0] a
  generalize w0.alloc (.cells #[.slice none 0 0] a) = w1 at *
  obtain ⟨o2, c2, n2, z2⟩ := add_cells w1 o1 [1, 2, 0, 0] [.slice none 0 0] a
  generalize w1.alloc (.cells #[.slice none 0 0] a) = w2 at *
  obtain ⟨o3, c3, n3, z3⟩ := add_cells w2 o2 [1, 0, 1, 0] [.slice none 0 0, .int .i64 0] b
  generalize w2.alloc (.cells #[.slice none 0 0, .int .i64 0] b) = w3 at *
  obtain ⟨o4, c4, n4, z4⟩ := add_cells w3 o3 [1, 1, 1, 0] [.slice none 0 0, .int .i64 0] b
  generalize w3.alloc (.cells #[.slice none 0 0, .int .i64 0] b) = w4 at *
  obtain ⟨o5, c5, n5, z5⟩ := add_cells w4 o4 [1, 2, 1, 0] [.slice none 0 0, .int .i64 0] b
  generalize w4.alloc (.cells #[.slice none 0 0, .int .i64 0] b) = w5 at *
  obtain ⟨o6, c6, n6, z6⟩ := add_cells w5 o5 [1, 0, 2, 0] [.slice none 0 0] c
  generalize w5.alloc (.cells #[.slice none 0 0] c) = w6 at *
  obtain ⟨o7, c7, n7, z7⟩ := add_cells w6 o6 [1, 1, 2, 0] [.slice none 0 0] c
  generalize w6.alloc (.cells #[.slice none 0 0] c) = w7 at *
  obtain ⟨o8, c8, n8, z8⟩ := add_cells w7 o7 [1, 2, 2, 0] [.slice none 0 0] c
  generalize w7.alloc (.cells #[.slice none 0 0] c) = w8 at *
  have s1 := z0
  rw [s1] at c1
  have s2 : w1.heap.size = w.heap.size + 2 := by omega
  rw [s2] at c2
  have s3 : w2.heap.size = w.heap.size + 3 := by omega
  rw [s3] at c3
  have s4 : w3.heap.size = w.heap.size + 4 := by omega
  rw [s4] at c4
  have s5 : w4.heap.size = w.heap.size + 5 := by omega
  rw [s5] at c5
  have s6 : w5.heap.size = w.heap.size + 6 := by omega
  rw [s6] at c6
  have s7 : w6.heap.size = w.heap.size + 7 := by omega
  rw [s7] at c7
  have s8 : w7.heap.size = w.heap.size + 8 := by omega
  rw [s8] at c8
  have hA : Hold w8 o8 0 (w.heap.size) (w.heap.size + 3) (w.heap.size + 6) ⟨[], [], []⟩ := ⟨EInt.St.nil ((((((((c0.new_ n1).new_ n2).new_ n3).new_ n4).new_ n5).new_ n6).new_ n7).new_ n8), ⟨.slice none 0 0, [], 0, (((((c3.new_ n4).new_ n5).new_ n6).new_ n7).new_ n8), Row.nil _ _ _ _ _, by simp, rfl⟩, TNI.TbP.nil ((c6.new_ n7).new_ n8), List.Pairwise.nil⟩
  have hB : Hold w8 o8 1 (w.heap.size + 1) (w.heap.size + 4) (w.heap.size + 7) ⟨[], [], []⟩ := ⟨EInt.St.nil (((((((c1.new_ n2).new_ n3).new_ n4).new_ n5).new_ n6).new_ n7).new_ n8), ⟨.slice none 0 0, [], 0, ((((c4.new_ n5).new_ n6).new_ n7).new_ n8), Row.nil _ _ _ _ _, by simp, rfl⟩, TNI.TbP.nil (c7.new_ n8), List.Pairwise.nil⟩
  have hC : Hold w8 o8 2 (w.heap.size + 2) (w.heap.size + 5) (w.heap.size + 8) ⟨[], [], []⟩ := ⟨EInt.St.nil ((((((c2.new_ n3).new_ n4).new_ n5).new_ n6).new_ n7).new_ n8), ⟨.slice none 0 0, [], 0, (((c5.new_ n6).new_ n7).new_ n8), Row.nil _ _ _ _ _, by simp, rfl⟩, TNI.TbP.nil c8, List.Pairwise.nil⟩
  exact ⟨o8, hA, hB, hC, (((((((((n0.turn [1]).trans (n1.turn [1])).trans (n2.turn [1])).trans (n3.turn [1])).trans (n4.turn [1])).trans (n5.turn [1])).trans (n6.turn [1])).trans (n7.turn [1])).trans (n8.turn [1]))⟩

set_option maxRecDepth 100000 in
set_option maxHeartbeats 16000000 in
theorem apart (w : World) (va : Value) (xs : List Op1) (ha : EOp.In w va xs) (vb : Value) (ys : List Op1) (hb : EOp.In w vb ys) : Calls Try.prog 9 #[va, vb] w fun e w' => e = .returned (.bool true) ∧ Below w.heap.size w w' := by
  go_enter Try.func9, Try.ntmps9
  go_wp2_with fail
  refine (EOp.few w va xs 150 ha (by omega)).mono ?_
  rintro e w0 ⟨v1, rfl, hia, hw0⟩
  rw [hw0]
  clear hw0 w0
  go_wp2_with fail
  refine (EOp.few w vb ys 150 hb (by omega)).mono ?_
  rintro e w0 ⟨v2, rfl, hib, hw0⟩
  rw [hw0]
  clear hw0 w0
  have la : (xs.take 150).length ≤ 150 := by rw [List.length_take]; omega
  have lb : (ys.take 150).length ≤ 150 := by rw [List.length_take]; omega
  generalize xs.take 150 = al at *
  generalize ys.take 150 = bl at *
  clear ha hb
  obtain ⟨A, capa, rfl, -, -, hca⟩ := hia
  obtain ⟨B, capb, rfl, -, -, hcb⟩ := hib
  have Ha := Lib.hid hca
  have Hb := Lib.hid hcb
  clear hca hcb
  go_wp2_with fail
  refine gen_world (nineP w) (nine w _ _ _) ?_
  rintro w1 ⟨ow1, hA0, hB0, hC0, t0⟩
  generalize hg : w.heap.size = g at *
  generalize hg8 : g + 1 + 1 + 1 + 1 + 1 + 1 + 1 + 1 = g13 at *
  generalize hg7 : g + 1 + 1 + 1 + 1 + 1 + 1 + 1 = g12 at *
  generalize hg6 : g + 1 + 1 + 1 + 1 + 1 + 1 = g11 at *
  generalize hg5 : g + 1 + 1 + 1 + 1 + 1 = g10 at *
  generalize hg4 : g + 1 + 1 + 1 + 1 = g9 at *
  generalize hg3 : g + 1 + 1 + 1 = g8 at *
  generalize hg2 : g + 1 + 1 = g7 at *
  generalize hg1 : g + 1 = g6 at *
  clear hg hg1 hg2 hg3 hg4 hg5 hg6 hg7 hg8
  go_loopg [14] (max al.length bl.length) (fun gn i wr => apRel w g g6 g7 g8 g9 g10 g11 g12 g13 al bl gn i wr)
  case atStart =>
    exact ⟨0, ow1, ⟨[], [], []⟩, ⟨[], [], []⟩, rfl, Nat.zero_le _, rfl, ⟨Nat.le_refl _, Nat.le_refl _, Nat.le_refl _⟩, ⟨Nat.le_refl _, Nat.le_refl _, Nat.le_refl _⟩, hA0, hB0, hC0, t0⟩
  case round =>
    clear hA0 hB0 hC0 t0 ow1 w1
    obtain ⟨k, OW, xa, xb, hgk, hk, rfl, fa, fb, hA, hB, hC, t⟩ := hrel
    have Hgk := Lib.hid hgk
    have bd := (t.new_ ow0 [1]).below
    have fa3 : Few3 xa 100000 := ⟨by have := fa.1; omega, by have := fa.2.1; omega, by have := fa.2.2; omega⟩
    have fb3 : Few3 xb 100000 := ⟨by have := fb.1; omega, by have := fb.2.1; omega, by have := fb.2.2; omega⟩
    have Fa := Lib.hid fa
    have Fb := Lib.hid fb
    have Fa3 := Lib.hid fa3
    have Fb3 := Lib.hid fb3
    clear hgk fa fb fa3 fb3
    by_cases ha : k < al.length
    · obtain ⟨o, ho⟩ : ∃ o, al[k]? = some o := ⟨_, List.getElem?_eq_getElem ha⟩
      obtain ⟨ba, offa, rfl, d0, d1, d2⟩ := Ha.out.at k o ho
      have la' := World.block_lt_of_cell? w _ d0
      simp only at la'
      have c0 := (bd.cell (p := ⟨ba, offa + k * 3, none⟩) la').trans d0
      have c1 := (bd.cell (p := ⟨ba, offa + k * 3 + 1, none⟩) la').trans d1
      have c2 := (bd.cell (p := ⟨ba, offa + k * 3 + 2, none⟩) la').trans d2
      have i0 : (k : Int) < (al.length : Int) := by omega
      obtain ⟨F1, -⟩ := Fa.out.step hA.2.2.2 o
      have Fa := Lib.hid F1
      clear ho F1
      go_wp2_with fail
      refine (act wr OW 0 g g8 g11 xa o hA Fa3.out).mono ?_
      rintro e w2 ⟨ow2, rfl, hA2, t2⟩
      have hB2 := hB.keep t2 (by omega)
      have hC2 := hC.keep t2 (by omega)
      have t2 := t.trans (t2.up (by simp))
      clear hA hB hC t c0 c1 c2 bd
      have bd := (t2.new_ ow0 [1]).below
      have c0 := (bd.cell (p := ⟨ba, offa + k * 3, none⟩) la').trans d0
      have c1 := (bd.cell (p := ⟨ba, offa + k * 3 + 1, none⟩) la').trans d1
      have c2 := (bd.cell (p := ⟨ba, offa + k * 3 + 2, none⟩) la').trans d2
      go_wp2_with fail
      refine (act w2 ow2 2 g7 g10 g13 xa o hC2 Fa3.out).mono ?_
      rintro e w3 ⟨ow3, rfl, hC3, t3⟩
      have hA3 := hA2.keep t3 (by omega)
      have hB3 := hB2.keep t3 (by omega)
      have t3 := t2.trans (t3.up (by simp))
      clear hA2 hB2 hC2 t2 c0 c1 c2 d0 d1 d2 bd Fa3
      generalize doT xa o = xa at *
      go_upto_if 48 with fail
      go_cut [] (fun wx => ∃ OW' xb', Few3 xb' (k + 1) ∧ Hold wx OW' 0 g g8 g11 xa ∧ Hold wx OW' 1 g6 g9 g12 xb' ∧ Hold wx OW' 2 g7 g10 g13 xa ∧ Turn [1] w ow0 wx OW')
      case first =>
        by_cases hb : k < bl.length
        · have bd := (t3.new_ ow0 [1]).below
          obtain ⟨ob, hob⟩ : ∃ o, bl[k]? = some o := ⟨_, List.getElem?_eq_getElem hb⟩
          obtain ⟨bb, offb, rfl, e0, e1, e2⟩ := Hb.out.at k ob hob
          have lb' := World.block_lt_of_cell? w _ e0
          simp only at lb'
          have c0 := (bd.cell (p := ⟨bb, offb + k * 3, none⟩) lb').trans e0
          have c1 := (bd.cell (p := ⟨bb, offb + k * 3 + 1, none⟩) lb').trans e1
          have c2 := (bd.cell (p := ⟨bb, offb + k * 3 + 2, none⟩) lb').trans e2
          have j0 : (k : Int) < (bl.length : Int) := by omega
          obtain ⟨F2, -⟩ := Fb.out.step hB3.2.2.2 ob
          have Fb := Lib.hid F2
          clear hob e0 e1 e2 F2
          go_wp2_with fail
          refine (act w3 ow3 1 g6 g9 g12 xb ob hB3 Fb3.out).mono ?_
          rintro e w4 ⟨ow4, rfl, hB4, t4⟩
          have hA4 := hA3.keep t4 (by omega)
          have hC4 := hC3.keep t4 (by omega)
          have t4 := t3.trans (t4.up (by simp))
          clear hA3 hB3 hC3 t3 c0 c1 c2 bd
          go_wp2_with fail
          go_meet
          exact ⟨ow4, _, Fb.out, hA4, hB4, hC4, t4⟩
        · have j0 : ¬ (k : Int) < (bl.length : Int) := by omega
          go_wp2_with fail
          go_meet
          exact ⟨ow3, xb, ⟨by have := Fb.out.1; omega, by have := Fb.out.2.1; omega, by have := Fb.out.2.2; omega⟩, hA3, hB3, hC3, t3⟩
      case rest =>
        clear hA3 hB3 hC3 t3 Fb Fb3
        obtain ⟨OW, xb, fb, hA, hB, hC, t⟩ := hcut
        obtain ⟨WW, rfl⟩ : ∃ W : World, W = wc := ⟨_, rfl⟩
        have Fb := Lib.hid fb
        have f1 := Fa.out.1
        have f2 := Fa.out.2.1
        have f3 := Fa.out.2.2
        clear fb
        go_wp2_with fail
        refine (EInt.s_list WW OW [1, 0, 0] [8, 0] g 0 xa.s hA.1 (by omega)).mono ?_
        rintro e w5 ⟨v5, ow5, rfl, r5, n5, -⟩
        have hA5 := hA.new_ n5
        have hB5 := hB.new_ n5
        have hC5 := hC.new_ n5
        have t5 := t.trans (n5.turn [1])
        clear hA hB hC t n5
        go_wp2_with fail
        refine (EInt.s_list w5 ow5 [1, 2, 0] [8, 1] g7 0 xa.s hC5.1 (by omega)).mono ?_
        rintro e w6 ⟨v6, ow6, rfl, r6, n6, -⟩
        have hA6 := hA5.new_ n6
        have hB6 := hB5.new_ n6
        have hC6 := hC5.new_ n6
        have r5 := r5.new_ n6
        have t6 := t5.trans (n6.turn [1])
        clear hA5 hB5 hC5 t5 n6
        go_wp2_with fail
        refine (EInt.same_yes w6 v5 v6 xa.s (by omega) r5.reads r6.reads).mono ?_
        rintro e w7 ⟨rfl, k7, rfl⟩
        have n7 := ((Below.refl w6.heap.size w6).nw ow6).drewN k7
        have hA7 := hA6.new_ n7
        have hB7 := hB6.new_ n7
        have hC7 := hC6.new_ n7
        have t7 := t6.drewN k7
        generalize w6.drewN k7 = w7 at *
        clear hA6 hB6 hC6 t6 n7 r5 r6
        go_wp2_with fail
        refine (EInt.q_list w7 ow6 [1, 0, 1] [8, 0] g8 0 xa.q hA7.2.1 (by omega)).mono ?_
        rintro e w8 ⟨v8, ow8, rfl, r8, n8, -⟩
        have hA8 := hA7.new_ n8
        have hB8 := hB7.new_ n8
        have hC8 := hC7.new_ n8
        have t8 := t7.trans (n8.turn [1])
        clear hA7 hB7 hC7 t7 n8
        go_wp2_with fail
        refine (EInt.q_list w8 ow8 [1, 2, 1] [8, 1] g10 0 xa.q hC8.2.1 (by omega)).mono ?_
        rintro e w9 ⟨v9, ow9, rfl, r9, n9, -⟩
        have hA9 := hA8.new_ n9
        have hB9 := hB8.new_ n9
        have hC9 := hC8.new_ n9
        have r8 := r8.new_ n9
        have t9 := t8.trans (n9.turn [1])
        clear hA8 hB8 hC8 t8 n9
        go_wp2_with fail
        refine (EInt.same_yes w9 v8 v9 xa.q (by omega) r8.reads r9.reads).mono ?_
        rintro e w10 ⟨rfl, k10, rfl⟩
        have n10 := ((Below.refl w9.heap.size w9).nw ow9).drewN k10
        have hA10 := hA9.new_ n10
        have hB10 := hB9.new_ n10
        have hC10 := hC9.new_ n10
        have t10 := t9.drewN k10
        generalize w9.drewN k10 = w10 at *
        clear hA9 hB9 hC9 t9 n10 r8 r9
        go_wp2_with fail
        refine (TNI.t_keys w10 ow9 [1, 0, 2] [8, 0] g11 0 xa.t hA10.2.2.1 (by omega)).mono ?_
        rintro e w11 ⟨v11, ow11, rfl, r11, n11, -⟩
        have hA11 := hA10.new_ n11
        have hB11 := hB10.new_ n11
        have hC11 := hC10.new_ n11
        have t11 := t10.trans (n11.turn [1])
        clear hA10 hB10 hC10 t10 n11
        go_wp2_with fail
        refine (TNI.t_keys w11 ow11 [1, 2, 2] [8, 1] g13 0 xa.t hC11.2.2.1 (by omega)).mono ?_
        rintro e w12 ⟨v12, ow12, rfl, r12, n12, -⟩
        have hA12 := hA11.new_ n12
        have hB12 := hB11.new_ n12
        have hC12 := hC11.new_ n12
        have r11 := r11.new_ n12
        have t12 := t11.trans (n12.turn [1])
        clear hA11 hB11 hC11 t11 n12
        rw [← List.length_map (f := fun x : TNI.R => x.1)] at r11 r12
        go_wp2_with fail
        refine (ENum.same_yes w12 v11 v12 (xa.t.map (·.1)) (by rw [List.length_map]; omega) r11.reads r12.reads).mono ?_
        rintro e w13 ⟨rfl, k13, rfl⟩
        have n13 := ((Below.refl w12.heap.size w12).nw ow12).drewN k13
        have hA13 := hA12.new_ n13
        have hB13 := hB12.new_ n13
        have hC13 := hC12.new_ n13
        have t13 := t12.drewN k13
        generalize w12.drewN k13 = w13 at *
        clear hA12 hB12 hC12 t12 n13 r11 r12
        go_wp2
        go_roundg (max al.length bl.length - (k + 1))
        case measure => have := Hgk.out; omega
        case rel => exact ⟨k + 1, ow12, xa, xb, rfl, by omega, by go_num, Fa.out, Fb.out, hA13, hB13, hC13, t13⟩
    · by_cases hb : k < bl.length
      · have i0 : ¬ (k : Int) < (al.length : Int) := by omega
        obtain ⟨ob, hob⟩ : ∃ o, bl[k]? = some o := ⟨_, List.getElem?_eq_getElem hb⟩
        obtain ⟨bb, offb, rfl, e0, e1, e2⟩ := Hb.out.at k ob hob
        have lb' := World.block_lt_of_cell? w _ e0
        simp only at lb'
        have c0 := (bd.cell (p := ⟨bb, offb + k * 3, none⟩) lb').trans e0
        have c1 := (bd.cell (p := ⟨bb, offb + k * 3 + 1, none⟩) lb').trans e1
        have c2 := (bd.cell (p := ⟨bb, offb + k * 3 + 2, none⟩) lb').trans e2
        have j0 : (k : Int) < (bl.length : Int) := by omega
        obtain ⟨F2, -⟩ := Fb.out.step hB.2.2.2 ob
        have Fb := Lib.hid F2
        clear hob e0 e1 e2 F2
        go_wp2_with fail
        refine (act wr OW 1 g6 g9 g12 xb ob hB Fb3.out).mono ?_
        rintro e w4 ⟨ow4, rfl, hB4, t4⟩
        have hA4 := hA.keep t4 (by omega)
        have hC4 := hC.keep t4 (by omega)
        have t4 := t.trans (t4.up (by simp))
        clear hA hB hC t c0 c1 c2 bd
        generalize doT xb ob = xb at *
        obtain ⟨WW, rfl⟩ : ∃ W : World, W = w4 := ⟨_, rfl⟩
        obtain ⟨OW, rfl⟩ : ∃ W : Ow, W = ow4 := ⟨_, rfl⟩
        have hA := hA4
        have hB := hB4
        have hC := hC4
        have t := t4
        have f1 := Fa.out.1
        have f2 := Fa.out.2.1
        have f3 := Fa.out.2.2
        have fa' : Few3 xa (k + 1) := ⟨by omega, by omega, by omega⟩
        have Fa := Lib.hid fa'
        clear fa'
        clear hA4 hB4 hC4 t4
        go_wp2_with fail
        refine (EInt.s_list WW OW [1, 0, 0] [8, 0] g 0 xa.s hA.1 (by omega)).mono ?_
        rintro e w5 ⟨v5, ow5, rfl, r5, n5, -⟩
        have hA5 := hA.new_ n5
        have hB5 := hB.new_ n5
        have hC5 := hC.new_ n5
        have t5 := t.trans (n5.turn [1])
        clear hA hB hC t n5
        go_wp2_with fail
        refine (EInt.s_list w5 ow5 [1, 2, 0] [8, 1] g7 0 xa.s hC5.1 (by omega)).mono ?_
        rintro e w6 ⟨v6, ow6, rfl, r6, n6, -⟩
        have hA6 := hA5.new_ n6
        have hB6 := hB5.new_ n6
        have hC6 := hC5.new_ n6
        have r5 := r5.new_ n6
        have t6 := t5.trans (n6.turn [1])
        clear hA5 hB5 hC5 t5 n6
        go_wp2_with fail
        refine (EInt.same_yes w6 v5 v6 xa.s (by omega) r5.reads r6.reads).mono ?_
        rintro e w7 ⟨rfl, k7, rfl⟩
        have n7 := ((Below.refl w6.heap.size w6).nw ow6).drewN k7
        have hA7 := hA6.new_ n7
        have hB7 := hB6.new_ n7
        have hC7 := hC6.new_ n7
        have t7 := t6.drewN k7
        generalize w6.drewN k7 = w7 at *
        clear hA6 hB6 hC6 t6 n7 r5 r6
        go_wp2_with fail
        refine (EInt.q_list w7 ow6 [1, 0, 1] [8, 0] g8 0 xa.q hA7.2.1 (by omega)).mono ?_
        rintro e w8 ⟨v8, ow8, rfl, r8, n8, -⟩
        have hA8 := hA7.new_ n8
        have hB8 := hB7.new_ n8
        have hC8 := hC7.new_ n8
        have t8 := t7.trans (n8.turn [1])
        clear hA7 hB7 hC7 t7 n8
        go_wp2_with fail
        refine (EInt.q_list w8 ow8 [1, 2, 1] [8, 1] g10 0 xa.q hC8.2.1 (by omega)).mono ?_
        rintro e w9 ⟨v9, ow9, rfl, r9, n9, -⟩
        have hA9 := hA8.new_ n9
        have hB9 := hB8.new_ n9
        have hC9 := hC8.new_ n9
        have r8 := r8.new_ n9
        have t9 := t8.trans (n9.turn [1])
        clear hA8 hB8 hC8 t8 n9
        go_wp2_with fail
        refine (EInt.same_yes w9 v8 v9 xa.q (by omega) r8.reads r9.reads).mono ?_
        rintro e w10 ⟨rfl, k10, rfl⟩
        have n10 := ((Below.refl w9.heap.size w9).nw ow9).drewN k10
        have hA10 := hA9.new_ n10
        have hB10 := hB9.new_ n10
        have hC10 := hC9.new_ n10
        have t10 := t9.drewN k10
        generalize w9.drewN k10 = w10 at *
        clear hA9 hB9 hC9 t9 n10 r8 r9
        go_wp2_with fail
        refine (TNI.t_keys w10 ow9 [1, 0, 2] [8, 0] g11 0 xa.t hA10.2.2.1 (by omega)).mono ?_
        rintro e w11 ⟨v11, ow11, rfl, r11, n11, -⟩
        have hA11 := hA10.new_ n11
        have hB11 := hB10.new_ n11
        have hC11 := hC10.new_ n11
        have t11 := t10.trans (n11.turn [1])
        clear hA10 hB10 hC10 t10 n11
        go_wp2_with fail
        refine (TNI.t_keys w11 ow11 [1, 2, 2] [8, 1] g13 0 xa.t hC11.2.2.1 (by omega)).mono ?_
        rintro e w12 ⟨v12, ow12, rfl, r12, n12, -⟩
        have hA12 := hA11.new_ n12
        have hB12 := hB11.new_ n12
        have hC12 := hC11.new_ n12
        have r11 := r11.new_ n12
        have t12 := t11.trans (n12.turn [1])
        clear hA11 hB11 hC11 t11 n12
        rw [← List.length_map (f := fun x : TNI.R => x.1)] at r11 r12
        go_wp2_with fail
        refine (ENum.same_yes w12 v11 v12 (xa.t.map (·.1)) (by rw [List.length_map]; omega) r11.reads r12.reads).mono ?_
        rintro e w13 ⟨rfl, k13, rfl⟩
        have n13 := ((Below.refl w12.heap.size w12).nw ow12).drewN k13
        have hA13 := hA12.new_ n13
        have hB13 := hB12.new_ n13
        have hC13 := hC12.new_ n13
        have t13 := t12.drewN k13
        generalize w12.drewN k13 = w13 at *
        clear hA12 hB12 hC12 t12 n13 r11 r12
        go_wp2
        go_roundg (max al.length bl.length - (k + 1))
        case measure => have := Hgk.out; omega
        case rel => exact ⟨k + 1, ow12, xa, xb, rfl, by omega, by go_num, Fa.out, Fb.out, hA13, hB13, hC13, t13⟩
      · have i0 : ¬ (k : Int) < (al.length : Int) := by omega
        have j0 : ¬ (k : Int) < (bl.length : Int) := by omega
        go_wp2_with fail
        refine (runs wr).mono ?_
        rintro e w5 ⟨rfl, b5⟩
        have fin := bd.trans (b5.mono bd.size)
        go_wp2
        go_ret
        exact ⟨rfl, fin⟩

end SH
end Go.Proofs.Ytppikbdeopagkaa
