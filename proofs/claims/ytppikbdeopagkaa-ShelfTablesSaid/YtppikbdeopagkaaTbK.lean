/-
  LAW 1: keys: do both tables tell the document's keys, and what they have, rising?
-/
import Derived.Test.YtppikbdeopagkaaTbP
import Derived.Test.YtppikbdeopagkaaTNII
import Derived.Test.YtppikbdeopagkaaRW4
import Derived.Test.YtppikbdeopagkaaPre
import Derived.Test.YtppikbdeopagkaaBox
import Derived.Test.YtppikbdeopagkaaFn
import Derived.Test.YtppikbdeopagkaaMore
import Derived.Test.YtppikbdeopagkaaCalc
import Derived.Shelf.Abstract
import Derived.LoopTactic
import Derived.Deep.LoopGhost
set_option linter.unusedVariables false
set_option linter.unusedSimpArgs false
namespace Go.Proofs.Ytppikbdeopagkaa
open Go Go.RowKit
attribute [local go_sem] Oper.semAt_some
theorem TNI.TbP.pre {w : World} {ow : Ow} {p : List Nat} {g o : Nat} {rows : List TNI.R} (h : TNI.TbP w ow p g o rows) : TNI.TbP w (Go.Proofs.Ytppikbdeopagkaa.pre ow) (0 :: p) g o rows := by
  obtain ⟨v, hc, hr⟩ := h
  exact ⟨v, hc.pre, hr.pre⟩
theorem TXP.TbP.pre {w : World} {ow : Ow} {p : List Nat} {g o : Nat} {rows : List TXP.R} (h : TXP.TbP w ow p g o rows) : TXP.TbP w (Go.Proofs.Ytppikbdeopagkaa.pre ow) (0 :: p) g o rows := by
  obtain ⟨v, hc, hr⟩ := h
  exact ⟨v, hc.pre, hr.pre⟩
theorem RW.Rw.pre {w : World} {ow : Ow} {p : List Nat} {g : Nat} {ys : List (Int × Int)} (h : RW.Rw w ow p g ys) : RW.Rw w (Go.Proofs.Ytppikbdeopagkaa.pre ow) (0 :: p) g ys := by
  obtain ⟨a, b, hc, h1, h2⟩ := h
  exact ⟨a, b, hc.pre, h1.pre, h2.pre⟩
namespace TB
open SH

theorem cell_bel {w w1 : World} (k : Below w.heap.size w w1) {g o : Nat} {u : Value} (h : w.cell? ⟨g, o, none⟩ = some u) : w1.cell? ⟨g, o, none⟩ = some u := (k.cell (World.block_lt_of_cell? w _ h)).trans h
theorem Reads_cell {w : World} {A : Option Addr} {n c : Nat} {cs : List Value} (h : Reads w (.slice A n c) n cs) (k : Nat) (u : Value) (hk : cs[k]? = some u) : ∃ g off, A = some ⟨g, off, none⟩ ∧ w.cell? ⟨g, off + k, none⟩ = some u := by
  rcases h with ⟨hv, hn, rfl⟩ | ⟨g, off, cap, hv, hn, hc⟩
  · simp at hk
  · simp only [Value.slice.injEq] at hv
    obtain ⟨rfl, -, rfl⟩ := hv
    exact ⟨g, off, rfl, hc k u hk⟩
/-- The two blocks that the function lays first. -/
def twoT (w : World) (ow : Ow) (u : Value) (W : World) : Prop := ∃ OW : Ow, Cells W OW [1, 2] w.heap.size 0 [u] ∧ Cells W OW [1, 7] (w.heap.size + 1) 0 [.bool false] ∧ Turn [1] w (pre ow) W OW
theorem two_t (w : World) (ow : Ow) (u : Value) (a b : TypeId) : twoT w ow u ((w.alloc (.cells #[u] a)).alloc (.cells #[.bool false] b)) := by
  obtain ⟨o0, c0, n0, z0⟩ := add_cells w (pre ow) [1, 2] [u] a
  generalize w.alloc (.cells #[u] a) = w0 at *
  obtain ⟨o1, c1, n1, z1⟩ := add_cells w0 o0 [1, 7] [.bool false] b
  generalize w0.alloc (.cells #[.bool false] b) = w1 at *
  rw [z0] at c1
  exact ⟨o1, c0.new_ n1, c1, (n0.turn [1]).trans (n1.turn [1])⟩
/-- What the range keeps. -/
def kyI (w : World) (ow : Ow) (g5 g6 g7 gw gn N : Nat) (V : Value) (ks : List Int) (k : Nat) (W : World) (OW : Ow) : Prop :=
  Cells W OW [1, 2] g5 0 [.pointer (some ⟨gw, 0, none⟩)] ∧ Cells W OW [1, 7] g6 0 [.bool false] ∧ Cells W OW [1, 3] g7 0 [V] ∧ Row W OW [1, 4] 3 1 V N (EInt.css ks) ∧ Cells W OW [1, 5, 1] gn 0 [.int .i64 (k : Int)] ∧ Turn [1] w (pre ow) W OW
theorem kyI.keep (w : World) (ow : Ow) (g5 g6 g7 gw gn N : Nat) (V : Value) (ks : List Int) (k : Nat) (a : Nat) (q : List Nat) (ha : a ≠ 2 ∧ a ≠ 3 ∧ a ≠ 7 ∧ a ≠ 4) (h5 : ¬ 1 :: a :: q <+: [1, 5, 1]) : Stab (1 :: a :: q) (kyI w ow g5 g6 g7 gw gn N V ks k) := by
  rintro W OW W' OW' ⟨h1, h2, h3, h4, h6, t⟩ tt
  obtain ⟨a2, a3, a7, a4⟩ := ha
  exact ⟨h1.keep tt (by simp [a2]), h2.keep tt (by simp [a7]), h3.keep tt (by simp [a3]), h4.keep tt (by simp [a4]), h6.keep tt h5, t.trans (tt.up (by simp))⟩
/-- What the loop keeps. -/
def kyL (w : World) (N gn : Nat) (i : Value) (wr : World) : Prop := ∃ m : Nat, gn = N - m ∧ m ≤ N ∧ i = .int .i64 (m : Int) ∧ Below w.heap.size w wr

set_option maxRecDepth 100000 in
set_option maxHeartbeats 8000000 in
theorem keysT (w : World) (ow : Ow) (p1 p2 p3 : List Nat) (g1 g2 gw : Nat) (rows ys : List (Int × Int)) (h : Same rows ys) (hn : rows.length ≤ 1000000) (h1 : TNI.TbP w ow p1 g1 0 rows) (h2 : TXP.TbP w ow p2 g2 0 (rows.map pr)) (h3 : RW.Rw w ow p3 gw ys) :
    Calls Try.prog 87 #[.pointer (some ⟨g1, 0, none⟩), .pointer (some ⟨g2, 0, none⟩), .pointer (some ⟨gw, 0, none⟩)] w fun e w' => e = .returned (.bool true) ∧ Below w.heap.size w w' := by
  have h1 := h1.pre
  have h2 := h2.pre
  have h3 := h3.pre
  have hlen : ys.length ≤ 1099511627776 := by rw [h.len]; omega
  have Hs := Lib.hid h
  have hkl : (rows.map (·.1)).length = rows.length := List.length_map _
  obtain ⟨N, hN⟩ : ∃ N, N = rows.length := ⟨_, rfl⟩
  rw [← hN] at hn hkl
  obtain ⟨ks, hks⟩ : ∃ ks, ks = rows.map (·.1) := ⟨_, rfl⟩
  rw [← hks] at hkl
  have hkp : (rows.map pr).map (·.1) = ks := by rw [hks, List.map_map]; rfl
  have hpl : (rows.map pr).length = N := by rw [hN, List.length_map]
  have HN := Lib.hid hN
  have Hks := Lib.hid hks
  have Hkp := Lib.hid hkp
  have Hkl := Lib.hid hkl
  have Hpl := Lib.hid hpl
  clear h hN hks hkp hkl hpl
  refine calls_marks (fn := Try.f87) Try.func87 rfl ?_
  simp only [Try.ntmps87, List.size_toArray, List.length_cons, List.length_nil, Nat.reduceAdd, Nat.reduceSub, Array.replicate_succ, Array.replicate_zero, List.push_toArray, List.append_toArray, List.nil_append, List.cons_append]
  have H1 := Lib.hid h1
  have H2 := Lib.hid h2
  have H3 := Lib.hid h3
  clear h1 h2 h3
  go_wp2_with fail
  refine gen_calls (twoT w ow (.pointer (some ⟨gw, 0, none⟩))) (two_t w ow _ _ _) ?_
  rintro w1 ⟨ow1, ha, hr, t⟩
  generalize hg : w.heap.size = g5 at *
  generalize hg1 : g5 + 1 = g6 at *
  have h3 := H3.out.keep t (by simp)
  refine (RW.keys w1 ow1 (0 :: p3) [1, 4] gw ys h3 hlen).mono ?_
  rintro e w2 ⟨V, zs, ow2, rfl, hzp, hzs, hrow, nn⟩
  have hz : ks = zs := Hks.out.trans (Hs.out.keys hzp hzs).symm
  subst hz
  rw [Hkl.out] at hrow
  clear hzp hzs h3
  obtain ⟨A7, c7, rfl, -⟩ := hrow.slice
  replace ha := ha.new_ nn
  replace hr := hr.new_ nn
  replace t := t.trans (nn.turn [1])
  clear nn
  go_wp2_with fail
  obtain ⟨ow3, hv, nn, -⟩ := add_cells w2 ow2 [1, 3] [.slice A7 N c7] 22
  generalize w2.alloc (.cells #[.slice A7 N c7] 22) = w3 at *
  generalize w2.heap.size = g7 at *
  replace ha := ha.new_ nn
  replace hr := hr.new_ nn
  replace hrow := hrow.new_ nn
  replace t := t.trans (nn.turn [1])
  clear nn
  refine (TNI.t_keys w3 ow3 (0 :: p1) [1, 8] g1 0 rows (H1.out.keep t (by simp) (by simp)) (by rw [← HN.out]; omega)).mono ?_
  rintro e w4 ⟨VA, ow4, rfl, hra, nn, -⟩
  rw [← HN.out, ← Hks.out] at hra
  obtain ⟨A8, c8, rfl, -⟩ := hra.slice
  replace ha := ha.new_ nn
  replace hr := hr.new_ nn
  replace hv := hv.new_ nn
  replace hrow := hrow.new_ nn
  replace t := t.trans (nn.turn [1])
  clear nn
  go_wp2_with fail
  refine (TXP.t_keys w4 ow4 (0 :: p2) [1, 9] g2 0 (rows.map pr) (H2.out.keep t (by simp) (by simp)) (by rw [Hpl.out]; omega)).mono ?_
  rintro e w5 ⟨VB, ow5, rfl, hrb, nn, -⟩
  rw [Hpl.out, Hkp.out] at hrb
  obtain ⟨A9, c9, rfl, -⟩ := hrb.slice
  replace ha := ha.new_ nn
  replace hr := hr.new_ nn
  replace hv := hv.new_ nn
  replace hrow := hrow.new_ nn
  replace hra := hra.new_ nn
  replace t := t.trans (nn.turn [1])
  clear nn
  have c7' := hv.get0
  go_wp2_with fail
  go_loopg [10] N (fun gn i wr => kyL w5 N gn i wr)
  case atStart => exact ⟨0, rfl, Nat.zero_le _, rfl, Below.refl _ _⟩
  case round =>
    obtain ⟨m, hgm, hm, rfl, bd⟩ := hrel
    have Hgm := Lib.hid hgm
    clear hgm c7'
    have nn := bd.nw ow5
    replace ha := ha.new_ nn
    replace hr := hr.new_ nn
    replace hv := hv.new_ nn
    replace hrow := hrow.new_ nn
    replace hra := hra.new_ nn
    replace hrb := hrb.new_ nn
    replace t := t.trans (nn.turn [1])
    clear nn
    by_cases hlt : m < N
    · obtain ⟨x, hx⟩ : ∃ x, ks[m]? = some x := ⟨_, List.getElem?_eq_getElem (by rw [Hkl.out]; exact hlt)⟩
      have hxr : EInt.Rng x := by
        have := List.mem_of_getElem? hx
        rw [Hks.out] at this
        obtain ⟨r, hr1, rfl⟩ := List.mem_map.1 this
        exact (Hs.out.2.2 r hr1).1
      have k7 := EInt.css_at ks m x hx 0 _ rfl (by omega)
      have k8 := ENum.css_at ks m x hx 0 _ rfl (by omega)
      have k9 := ETx.css_at ks m x hx 0 _ rfl (by omega)
      simp only [Nat.mul_one, Nat.add_zero] at k7 k8 k9
      obtain ⟨b7, o7, rfl, e7⟩ := Reads_cell hrow.reads m _ k7
      obtain ⟨b8, o8, rfl, e8⟩ := Reads_cell hra.reads m _ k8
      obtain ⟨b9, o9, rfl, e9⟩ := Reads_cell hrb.reads m _ k9
      have c7' := hv.get0
      have i0 : (m : Int) < (N : Int) := by omega
      clear k7 k8 k9 hx ha hr hv hrow hra hrb t
      go_wp2_with fail
      refine plain_regionN (fun W' : World => W'.cell? ⟨b8, o8 + m, none⟩ = some (.int .i64 x) ∧ W'.cell? ⟨g7, 0, none⟩ = some (.slice (some ⟨b7, o7, none⟩) N c7) ∧ W'.cell? ⟨b7, o7 + m, none⟩ = some (.int .i64 x) ∧ W'.cell? ⟨b9, o9 + m, none⟩ = some (.string (Tx.tx x))) [] (by kernel_rfl) ?_
      have hS : (fun W' : World => W'.cell? ⟨b8, o8 + m, none⟩ = some (.int .i64 x) ∧ W'.cell? ⟨g7, 0, none⟩ = some (.slice (some ⟨b7, o7, none⟩) N c7) ∧ W'.cell? ⟨b7, o7 + m, none⟩ = some (.int .i64 x) ∧ W'.cell? ⟨b9, o9 + m, none⟩ = some (.string (Tx.tx x))) wr.drew := ⟨e8, c7', e7, e9⟩
      refine anyX_takeNL 0 (v := ?_) rfl rfl (by as_aux_lemma => kernel_rfl) (by as_aux_lemma => kernel_rfl) (by as_aux_lemma => kernel_rfl) (by as_aux_lemma => kernel_rfl) (by as_aux_lemma => kernel_rfl) (fun _ _ _ h => h) rfl ?_ hS ?_
      rotate_left
      · intro W' hW'
        obtain ⟨s0, s1, s2, s3⟩ := hW'
        all_goals (go_simp; first | done | rfl)
      intro l' hl
      dsimp only [List.set_cons_succ, List.set_cons_zero] at hl
      subst hl
      refine anyX_takeNL 1 (v := ?_) rfl rfl (by as_aux_lemma => kernel_rfl) (by as_aux_lemma => kernel_rfl) (by as_aux_lemma => kernel_rfl) (by as_aux_lemma => kernel_rfl) (by as_aux_lemma => kernel_rfl) (fun _ _ _ h => h) rfl ?_ hS ?_
      rotate_left
      · intro W' hW'
        obtain ⟨s0, s1, s2, s3⟩ := hW'
        all_goals (go_simp; first | done | rfl)
      intro l' hl
      dsimp only [List.set_cons_succ, List.set_cons_zero] at hl
      subst hl
      refine anyX_takeNL 2 (v := ?_) rfl rfl (by as_aux_lemma => kernel_rfl) (by as_aux_lemma => kernel_rfl) (by as_aux_lemma => kernel_rfl) (by as_aux_lemma => kernel_rfl) (by as_aux_lemma => kernel_rfl) (fun _ _ _ h => h) rfl ?_ hS ?_
      rotate_left
      · intro W' hW'
        obtain ⟨s0, s1, s2, s3⟩ := hW'
        all_goals (go_simp; first | done | rfl)
      intro l' hl
      dsimp only [List.set_cons_succ, List.set_cons_zero] at hl
      subst hl
      refine anyX_takeNL 3 (v := ?_) rfl rfl (by as_aux_lemma => kernel_rfl) (by as_aux_lemma => kernel_rfl) (by as_aux_lemma => kernel_rfl) (by as_aux_lemma => kernel_rfl) (by as_aux_lemma => kernel_rfl) (fun _ _ _ h => h) rfl ?_ hS ?_
      rotate_left
      · intro W' hW'
        obtain ⟨s0, s1, s2, s3⟩ := hW'
        all_goals (go_simp; first | done | rfl)
      intro l' hl
      dsimp only [List.set_cons_succ, List.set_cons_zero] at hl
      subst hl
      refine anyX_takeNL 4 (v := ?_) rfl rfl (by as_aux_lemma => kernel_rfl) (by as_aux_lemma => kernel_rfl) (by as_aux_lemma => kernel_rfl) (by as_aux_lemma => kernel_rfl) (by as_aux_lemma => kernel_rfl) (fun _ _ _ h => h) rfl ?_ hS ?_
      rotate_left
      · intro W' hW'
        obtain ⟨s0, s1, s2, s3⟩ := hW'
        all_goals (go_simp; first | done | rfl)
      intro l' hl
      dsimp only [List.set_cons_succ, List.set_cons_zero] at hl
      subst hl
      refine anyX_takeNL 5 (v := ?_) rfl rfl (by as_aux_lemma => kernel_rfl) (by as_aux_lemma => kernel_rfl) (by as_aux_lemma => kernel_rfl) (by as_aux_lemma => kernel_rfl) (by as_aux_lemma => kernel_rfl) (fun _ _ _ h => h) rfl ?_ hS ?_
      rotate_left
      · intro W' hW'
        obtain ⟨s0, s1, s2, s3⟩ := hW'
        all_goals (go_simp; first | done | rfl)
      intro l' hl
      dsimp only [List.set_cons_succ, List.set_cons_zero] at hl
      subst hl
      refine anyX_takeNL 6 (v := ?_) rfl rfl (by as_aux_lemma => kernel_rfl) (by as_aux_lemma => kernel_rfl) (by as_aux_lemma => kernel_rfl) (by as_aux_lemma => kernel_rfl) (by as_aux_lemma => kernel_rfl) (fun _ _ _ h => h) rfl ?_ hS ?_
      rotate_left
      · intro W' hW'
        obtain ⟨s0, s1, s2, s3⟩ := hW'
        all_goals (go_simp; first | done | rfl)
      intro l' hl
      dsimp only [List.set_cons_succ, List.set_cons_zero] at hl
      subst hl
      refine anyX_takeNL 7 (v := ?_) rfl rfl (by as_aux_lemma => kernel_rfl) (by as_aux_lemma => kernel_rfl) (by as_aux_lemma => kernel_rfl) (by as_aux_lemma => kernel_rfl) (by as_aux_lemma => kernel_rfl) (fun _ _ _ h => h) rfl ?_ hS ?_
      rotate_left
      · intro W' hW'
        obtain ⟨s0, s1, s2, s3⟩ := hW'
        all_goals (go_simp; first | done | rfl)
      intro l' hl
      dsimp only [List.set_cons_succ, List.set_cons_zero] at hl
      subst hl
      refine anyX_takeNL 8 (v := ?_) rfl rfl (by as_aux_lemma => kernel_rfl) (by as_aux_lemma => kernel_rfl) (by as_aux_lemma => kernel_rfl) (by as_aux_lemma => kernel_rfl) (by as_aux_lemma => kernel_rfl) (fun _ _ _ h => h) rfl ?_ hS ?_
      rotate_left
      · intro W' hW'
        obtain ⟨s0, s1, s2, s3⟩ := hW'
        all_goals (go_simp; first | done | rfl)
      intro l' hl
      dsimp only [List.set_cons_succ, List.set_cons_zero] at hl
      subst hl
      refine anyX_takeNL 9 (v := ?_) rfl rfl (by as_aux_lemma => kernel_rfl) (by as_aux_lemma => kernel_rfl) (by as_aux_lemma => kernel_rfl) (by as_aux_lemma => kernel_rfl) (by as_aux_lemma => kernel_rfl) (fun _ _ _ h => h) rfl ?_ hS ?_
      rotate_left
      · intro W' hW'
        obtain ⟨s0, s1, s2, s3⟩ := hW'
        all_goals (go_simp; first | done | rfl)
      intro l' hl
      dsimp only [List.set_cons_succ, List.set_cons_zero] at hl
      subst hl
      refine anyX_takeWL 10 (v := ?_) rfl rfl (by as_aux_lemma => kernel_rfl) (by as_aux_lemma => kernel_rfl) (by as_aux_lemma => kernel_rfl) (by as_aux_lemma => kernel_rfl) (by as_aux_lemma => kernel_rfl) (fun _ _ _ h => h) (by rfl) ?_ hS ?_
      rotate_left
      · intro W' hW'
        obtain ⟨s0, s1, s2, s3⟩ := hW'
        all_goals (go_simp; first | done | rfl)
      intro l' hl
      dsimp only [List.set_cons_succ, List.set_cons_zero] at hl
      subst hl
      refine anyX_takeWL 11 (v := ?_) rfl rfl (by as_aux_lemma => kernel_rfl) (by as_aux_lemma => kernel_rfl) (by as_aux_lemma => kernel_rfl) (by as_aux_lemma => kernel_rfl) (by as_aux_lemma => kernel_rfl) (fun _ _ _ h => h) (by rfl) ?_ hS ?_
      rotate_left
      · intro W' hW'
        obtain ⟨s0, s1, s2, s3⟩ := hW'
        all_goals (go_simp; first | done | rfl)
      intro l' hl
      dsimp only [List.set_cons_succ, List.set_cons_zero] at hl
      subst hl
      refine anyX_takeWL 12 (v := ?_) rfl rfl (by as_aux_lemma => kernel_rfl) (by as_aux_lemma => kernel_rfl) (by as_aux_lemma => kernel_rfl) (by as_aux_lemma => kernel_rfl) (by as_aux_lemma => kernel_rfl) (fun _ _ _ h => h) (by rfl) ?_ hS ?_
      rotate_left
      · intro W' hW'
        obtain ⟨s0, s1, s2, s3⟩ := hW'
        all_goals (go_simp; first | done | rfl)
      intro l' hl
      dsimp only [List.set_cons_succ, List.set_cons_zero] at hl
      subst hl
      refine anyX_takeWL 13 (v := ?_) rfl rfl (by as_aux_lemma => kernel_rfl) (by as_aux_lemma => kernel_rfl) (by as_aux_lemma => kernel_rfl) (by as_aux_lemma => kernel_rfl) (by as_aux_lemma => kernel_rfl) (fun _ _ _ h => h) (by rfl) ?_ hS ?_
      rotate_left
      · intro W' hW'
        obtain ⟨s0, s1, s2, s3⟩ := hW'
        all_goals (go_simp; first | done | rfl)
      intro l' hl
      dsimp only [List.set_cons_succ, List.set_cons_zero] at hl
      subst hl
      refine anyX_takeWL 14 (v := ?_) rfl rfl (by as_aux_lemma => kernel_rfl) (by as_aux_lemma => kernel_rfl) (by as_aux_lemma => kernel_rfl) (by as_aux_lemma => kernel_rfl) (by as_aux_lemma => kernel_rfl) (fun _ _ _ h => h) (by rfl) ?_ hS ?_
      rotate_left
      · intro W' hW'
        obtain ⟨s0, s1, s2, s3⟩ := hW'
        all_goals (go_simp; first | done | rfl)
      intro l' hl
      dsimp only [List.set_cons_succ, List.set_cons_zero] at hl
      subst hl
      refine anyX_takeWL 15 (v := ?_) rfl rfl (by as_aux_lemma => kernel_rfl) (by as_aux_lemma => kernel_rfl) (by as_aux_lemma => kernel_rfl) (by as_aux_lemma => kernel_rfl) (by as_aux_lemma => kernel_rfl) (fun _ _ _ h => h) (by rfl) ?_ hS ?_
      rotate_left
      · intro W' hW'
        obtain ⟨s0, s1, s2, s3⟩ := hW'
        all_goals (go_simp; first | done | rfl)
      intro l' hl
      dsimp only [List.set_cons_succ, List.set_cons_zero] at hl
      subst hl
      refine anyX_takeWL 16 (v := ?_) rfl rfl (by as_aux_lemma => kernel_rfl) (by as_aux_lemma => kernel_rfl) (by as_aux_lemma => kernel_rfl) (by as_aux_lemma => kernel_rfl) (by as_aux_lemma => kernel_rfl) (fun _ _ _ h => h) (by rfl) ?_ hS ?_
      rotate_left
      · intro W' hW'
        obtain ⟨s0, s1, s2, s3⟩ := hW'
        all_goals (go_simp; first | done | rfl)
      intro l' hl
      dsimp only [List.set_cons_succ, List.set_cons_zero] at hl
      subst hl
      refine anyX_takeWL 17 (v := ?_) rfl rfl (by as_aux_lemma => kernel_rfl) (by as_aux_lemma => kernel_rfl) (by as_aux_lemma => kernel_rfl) (by as_aux_lemma => kernel_rfl) (by as_aux_lemma => kernel_rfl) (fun _ _ _ h => h) (by rfl) ?_ hS ?_
      rotate_left
      · intro W' hW'
        obtain ⟨s0, s1, s2, s3⟩ := hW'
        all_goals (go_simp; first | done | rfl)
      intro l' hl
      dsimp only [List.set_cons_succ, List.set_cons_zero] at hl
      subst hl
      refine anyX_oneW (i := 18) (by kernel_rfl) rfl (by rfl) fun K' hK' => ?_
      unfold Oper.wp
      go_simp
      refine (Tx.text _ x hxr).mono ?_
      rintro e w6 ⟨rfl, bb⟩
      have bd6 := bd.drew.trans (bb.mono bd.size)
      have hS : (fun W' : World => W'.cell? ⟨b8, o8 + m, none⟩ = some (.int .i64 x) ∧ W'.cell? ⟨g7, 0, none⟩ = some (.slice (some ⟨b7, o7, none⟩) N c7) ∧ W'.cell? ⟨b7, o7 + m, none⟩ = some (.int .i64 x) ∧ W'.cell? ⟨b9, o9 + m, none⟩ = some (.string (Tx.tx x))) w6 := ⟨cell_bel bb e8, cell_bel bb c7', cell_bel bb e7, cell_bel bb e9⟩
      refine hK' _ _ (fun _ => hS) ?_
      clear hK' K'
      refine anyX_takeWL 19 (v := ?_) rfl rfl (by as_aux_lemma => kernel_rfl) (by as_aux_lemma => kernel_rfl) (by as_aux_lemma => kernel_rfl) (by as_aux_lemma => kernel_rfl) (by as_aux_lemma => kernel_rfl) (fun _ _ _ h => h) (by rfl) ?_ hS ?_
      rotate_left
      · intro W' hW'
        obtain ⟨s0, s1, s2, s3⟩ := hW'
        all_goals (go_simp; first | done | rfl)
      intro l' hl
      dsimp only [List.set_cons_succ, List.set_cons_zero] at hl
      subst hl
      refine anyX_takeNL 20 (v := ?_) rfl rfl (by as_aux_lemma => kernel_rfl) (by as_aux_lemma => kernel_rfl) (by as_aux_lemma => kernel_rfl) (by as_aux_lemma => kernel_rfl) (by as_aux_lemma => kernel_rfl) (fun _ _ _ h => h) rfl ?_ hS ?_
      rotate_left
      · intro W' hW'
        obtain ⟨s0, s1, s2, s3⟩ := hW'
        all_goals (go_simp; first | done | rfl)
      intro l' hl
      dsimp only [List.set_cons_succ, List.set_cons_zero] at hl
      subst hl
      refine anyX_done (by kernel_rfl) ?_ _
      refine NoPanic.normal ?_
      clear hS e7 e8 e9 c7' bb
      go_wp2_with fail
      go_roundg (N - (m + 1))
      case measure => have := Hgm.out; omega
      case rel => exact ⟨m + 1, rfl, by omega, by go_num, bd6⟩
    · obtain rfl : m = N := by omega
      clear hlt Hgm
      have hfn := fun (W : World) (b : Nat) => run_eql_fn (P := Try.prog) W 174 _ _ _ (.func 148) #[] #[.pointer (some ⟨b, 0, none⟩)] Try.underlying174
      have c7' := hv.get0
      go_wp2_with fail
      refine (TNI.t_all wr g1 0).mono ?_
      rintro e w71 ⟨rfl, rfl⟩
      go_wp2
      clear hfn c7'
      obtain ⟨o2, bx, n2, z2⟩ := add_cells wr ow5 [1, 10] [.pointer (some ⟨g1, 0, none⟩)] 90
      generalize wr.alloc (.cells #[.pointer (some ⟨g1, 0, none⟩)] 90) = wx at *
      obtain ⟨o3, by_, n3, -⟩ := add_cells wx o2 [1, 5, 1] [.int .i64 0] 3
      rw [z2] at by_
      have n4 := n2.trans n3
      refine gen_world (fun W => ∃ OW, kyI w ow g5 g6 g7 gw (wr.heap.size + 1) m (.slice A7 m c7) ks 0 W OW ∧ Cells W OW [1, 10] wr.heap.size 0 [.pointer (some ⟨g1, 0, none⟩)]) ⟨o3, ⟨ha.new_ n4, hr.new_ n4, hv.new_ n4, hrow.new_ n4, by_, t.trans (n4.turn [1])⟩, bx.new_ n3⟩ ?_
      clear ha hr hv hrow hra hrb t bx by_ n2 n3 n4 z2 bd
      rintro w8 ⟨ow8, hI8, hc⟩
      generalize wr.heap.size + 1 = gn at *
      generalize wr.heap.size = gc at *
      have hT := H1.out.keep hI8.2.2.2.2.2 (by simp) (by simp)
      refine wp_range (gf := 148) (lb := #[.pointer (some ⟨gc, 0, none⟩)]) rfl (enters_of Try.func148 (by kernel_rfl) rfl) (TNI.targs rows) [1, 6] [1, 5] [1, 5, 0] w8 ow8
        (TNI.t_iter w8 ow8 (0 :: p1) [1, 10] [1, 6] [1, 5] g1 0 gc rows hT (by rw [← HN.out]; omega) hc (by simp) (by simp) (by simp) (by simp)) (Turn.refl _ _ _) (by simp) (by simp) ?_
        (kyI w ow g5 g6 g7 gw gn m (.slice A7 m c7) ks) (fun _ _ _ _ => False) ?_ ?_ ?_ ?_ ?_ ?_ ?_ ?_
      · intro i args hi
        obtain ⟨x, -, rfl⟩ := TNI.targs_at rows i args hi
        rfl
      · exact fun j => kyI.keep _ _ _ _ _ _ _ _ _ _ _ _ _ (by simp) (by simp)
      · intro c j W1 OW1 W2 OW2 hf; exact hf.elim
      · exact fun j => kyI.keep _ _ _ _ _ _ _ _ _ _ _ _ _ (by simp) (by simp)
      · intro c j W1 OW1 W2 OW2 hf; exact hf.elim
      · exact hI8
      · intro l' D j rr rb args W4 OW4 hxj hI hBk
        clear hI8 hT hc
        obtain ⟨y, hy, rfl⟩ := TNI.targs_at rows j args hxj
        obtain ⟨d1, d2, d3, d4, d5, d6⟩ := hI
        rw [foldl2]
        simp only [List.setIfInBounds_toArray, List.set_cons_succ, List.set_cons_zero]
        gi_wp2
        refine ⟨OW4, Turn.refl _ _ _, hBk, fun W5 ht5 hBk5 => ?_⟩
        replace d1 := d1.keep ht5 (by simp)
        replace d2 := d2.keep ht5 (by simp)
        replace d3 := d3.keep ht5 (by simp)
        replace d4 := d4.keep ht5 (by simp)
        replace d5 := d5.keep ht5 (by simp)
        replace d6 := d6.trans (ht5.up (by simp))
        have hjl : j < m := by rw [HN.out]; exact (List.getElem?_eq_some_iff.1 hy).1
        have h3 := H3.out.keep d6 (by simp)
        have b5 := d1.get0
        gi_wp2_with fail
        refine ⟨trivial, rfl, callsIn_wide.2 ((getR Hs.out hy (by rw [← HN.out]; exact hn) W5 OW4 (0 :: p3) gw h3).mono ?_)⟩
        rintro e W6 ⟨rfl, bb⟩
        have nn := bb.nw OW4
        have tn := nn.turn [1, 5, 2]
        replace hBk5 := hBk5.new_ nn
        replace d1 := d1.new_ nn
        replace d2 := d2.new_ nn
        replace d3 := d3.new_ nn
        replace d4 := d4.new_ nn
        replace d5 := d5.new_ nn
        replace d6 := d6.trans (nn.turn [1])
        have k7 := EInt.css_at ks j y.1 (by rw [Hks.out, List.getElem?_map, hy]; rfl) 0 _ rfl (by omega)
        simp only [Nat.mul_one, Nat.add_zero] at k7
        obtain ⟨b7, o7, rfl, e7⟩ := Reads_cell d4.reads j _ k7
        have v3 := d3.get0
        have n0 := d5.get0
        have nf := d5.free 0
        have nl := d5.lt
        have i1 : (j : Int) < (m : Int) := by omega
        clear b5 k7 hy h3
        gi_wp2
        have tk := d5.turn 0 (.int .i64 ((j : Int) + 1)) (by simp)
        exact ⟨OW4, (nn.turn [1, 5]).trans (tk.up (by simp)), hBk5.setCell _ _, d1.keep tk (by simp), d2.keep tk (by simp), d3.keep tk (by simp), d4.keep tk (by simp), d5.set0 _, d6.trans (tk.up (by simp))⟩
      · clear hI8 hT hc
        intro D W4 OW4 hI hD oD hDs
        rw [TNI.targs_length, ← HN.out] at hI
        obtain ⟨d1, d2, d3, d4, d5, d6⟩ := hI
        have hM : Marks (fun x => x = [1, 5, 0]) W4 OW4 [{ target := .collected D, args := #[] }] := ⟨⟨D, rfl, hD, oD, by simp⟩, trivial⟩
        have v3 := d3.get0
        have n0 := d5.get0
        have fr := d2.free 0
        have lr := d2.lt
        have r0 := d2.get0
        have tt := d2.turn 0 (.bool true) (by simp)
        have hr2 := d2.set0 (.bool true)
        have hM2 := Marks.turn (q := [1, 7]) (by rintro x rfl; simp) tt hM
        have fin := d6.trans (tt.up (by simp))
        clear hD oD hDs hM d1 d2 d3 d4 d5 d6
        go_wp2
        refine bodyM_ret (ok := fun x => x = [1, 5, 0]) [1, 5, 0] (fun x hx => hx ▸ List.prefix_refl _) hM2 fun W' t' => ⟨.bool true, ?_, rfl, ((fin.trans (t'.up (by simp))).allP []).below⟩
        have r0 := (hr2.keep t' (by simp)).get0
        simp [results, Try.results87, go_sem, r0]
      · intro D c j W1 OW1 hj hf; exact hf.elim
end TB
end Go.Proofs.Ytppikbdeopagkaa
