/-
  LAW 1: ShelfQueues: every call on Queues of ints and of pairs: the walk.
-/
import Derived.Test.YtppikbdeopagkaaSR
import Derived.Test.YtppikbdeopagkaaTx
import Derived.Test.YtppikbdeopagkaaEPrQ2
import Derived.Test.YtppikbdeopagkaaEOpP
import Derived.Test.YtppikbdeopagkaaEIntS
import Derived.Test.YtppikbdeopagkaaEIntQI
import Derived.Test.YtppikbdeopagkaaBox
import Derived.Test.YtppikbdeopagkaaFn
import Derived.Test.YtppikbdeopagkaaCalc
import Derived.Shelf.Abstract
import Derived.Deep.CutRange
import Derived.Deep.DeepCutAuto
set_option linter.unusedVariables false
set_option linter.unusedSimpArgs false
namespace Go.Proofs.Ytppikbdeopagkaa
open Go Go.RowKit
attribute [local go_sem] Oper.semAt_some
namespace SH
open Tx

/-- What the loop keeps. -/
def quRel (w : World) (g2 g3 g4 g5 n : Nat) (gn : Nat) (i : Value) (wr : World) : Prop :=
  ∃ (k : Nat) (OW : Ow) (xs : List Int) (v : Value), gn = n - k ∧ k ≤ n ∧ i = .int .i64 (k : Int) ∧ xs.length ≤ k ∧ (∀ x ∈ xs, EInt.Rng x) ∧ EInt.Q wr OW [1, 0, 0] g3 0 xs ∧ EPr.Q wr OW [1, 0, 1] g4 0 (xs.map mkP) ∧ Row wr OW [1, 4] 3 1 v xs.length (EInt.css xs) ∧ Cells wr OW [1, 2] g5 0 [v] ∧ Cells wr OW [1, 7] g2 0 [.bool false] ∧ Turn [1] w ow0 wr OW
/-- What stands within a round. -/
def quMid (w : World) (g2 g3 g4 g5 gx : Nat) (o : Op1) (N : Nat) (wr : World) : Prop :=
  ∃ (OW : Ow) (xs : List Int) (v : Value), xs.length ≤ N ∧ (∀ x ∈ xs, EInt.Rng x) ∧ EInt.Q wr OW [1, 0, 0] g3 0 xs ∧ EPr.Q wr OW [1, 0, 1] g4 0 (xs.map mkP) ∧ Row wr OW [1, 4] 3 1 v xs.length (EInt.css xs) ∧ Cells wr OW [1, 2] g5 0 [v] ∧ Cells wr OW [1, 7] g2 0 [.bool false] ∧ Cells wr OW [1, 3] gx 0 [.int .i64 o.kind, .int .i64 o.level, .int .i64 o.n] ∧ Turn [1] w ow0 wr OW
def fourQ (w : World) (W : World) : Prop := ∃ OW : Ow, Cells W OW [1, 7] w.heap.size 0 [.bool false] ∧ EInt.Q W OW [1, 0, 0] (w.heap.size + 1) 0 [] ∧ EPr.Q W OW [1, 0, 1] (w.heap.size + 1 + 1) 0 [] ∧ Cells W OW [1, 2] (w.heap.size + 1 + 1 + 1) 0 [.slice none 0 0] ∧ Turn [1] w ow0 W OW
theorem four_q (w : World) (a b c d : TypeId) : fourQ w ((((w.alloc (.cells #[.bool false] a)).alloc (.cells #[.slice none 0 0, .int .i64 0] b)).alloc (.cells #[.slice none 0 0, .int .i64 0] c)).alloc (.cells #[.slice none 0 0] d)) := by
  obtain ⟨o0, c0, n0, z0⟩ := add_cells w ow0 [1, 7] [.bool false] a
  generalize w.alloc (.cells #[.bool false] a) = w0 at *
  obtain ⟨o1, c1, n1, z1⟩ := add_cells w0 o0 [1, 0, 0, 0] [.slice none 0 0, .int .i64 0] b
  generalize w0.alloc (.cells #[.slice none 0 0, .int .i64 0] b) = w1 at *
  obtain ⟨o2, c2, n2, z2⟩ := add_cells w1 o1 [1, 0, 1, 0] [.slice none 0 0, .int .i64 0] c
  generalize w1.alloc (.cells #[.slice none 0 0, .int .i64 0] c) = w2 at *
  obtain ⟨o3, c3, n3, z3⟩ := add_cells w2 o2 [1, 2] [.slice none 0 0] d
  generalize w2.alloc (.cells #[.slice none 0 0] d) = w3 at *
  rw [z0] at c1
  have s2 : w1.heap.size = w.heap.size + 2 := by omega
  rw [s2] at c2
  have s3 : w2.heap.size = w.heap.size + 3 := by omega
  rw [s3] at c3
  exact ⟨o3, ((c0.new_ n1).new_ n2).new_ n3, ⟨.slice none 0 0, [], 0, (c1.new_ n2).new_ n3, Row.nil _ _ _ _ _, by simp, rfl⟩, ⟨.slice none 0 0, [], 0, c2.new_ n3, Row.nil _ _ _ _ _, by simp, rfl⟩, c3, (((n0.turn [1]).trans (n1.turn [1])).trans (n2.turn [1])).trans (n3.turn [1])⟩

theorem old_cell (w : World) (e : TypeId) (b o : Nat) (x : Int) (h : (w.alloc (.cells #[.bool false] e)).cell? ⟨b, o, none⟩ = some (.int .i64 x)) : b < w.heap.size := by
  have h1 := World.block_lt_of_cell? _ _ h
  simp only [World.size_alloc] at h1
  by_cases hb : b < w.heap.size
  · exact hb
  · obtain rfl : b = w.heap.size := by omega
    simp only [World.cell?, heap_alloc_new] at h
    cases o with
    | zero => simp at h
    | succ o => simp at h
theorem cov_old (w : World) (e : TypeId) (A : Option Addr) (ys : List Op1) (h : EOp.Cov (w.alloc (.cells #[.bool false] e)) A (EOp.css ys)) : EOp.Cov w A (EOp.css ys) := fun h0 => by
  obtain ⟨b, off, hA, hc⟩ := h h0
  refine ⟨b, off, hA, fun j u hj => ?_⟩
  have h1 := hc j u hj
  obtain ⟨x, rfl⟩ : ∃ x : Int, u = .int .i64 x := by
    obtain ⟨y, -, hy⟩ := List.mem_flatMap.1 (List.mem_of_getElem? hj)
    simp only [EOp.cs, List.mem_cons, List.not_mem_nil, or_false] at hy
    rcases hy with rfl | rfl | rfl <;> exact ⟨_, rfl⟩
  have hb := old_cell w e b _ x h1
  rw [← h1]
  exact (((Below.refl w.heap.size w).alloc (Nat.le_refl _) (.cells #[.bool false] e)).cell (p := ⟨b, off + j, none⟩) hb).symm

/-- What the range keeps. -/
def rngI (w : World) (g2 g3 g4 g5 gn gc : Nat) (v : Value) (xs : List Int) (k : Nat) (W : World) (OW : Ow) : Prop :=
  EInt.Q W OW [1, 0, 0] g3 0 xs ∧ EPr.Q W OW [1, 0, 1] g4 0 (xs.map mkP) ∧ Row W OW [1, 4] 3 1 v xs.length (EInt.css xs) ∧ Cells W OW [1, 2] g5 0 [v] ∧ Cells W OW [1, 7] g2 0 [.bool false] ∧ Cells W OW [1, 5, 1] gn 0 [.int .i64 (k : Int)] ∧ Turn [1] w ow0 W OW
theorem rngI.keep (w : World) (g2 g3 g4 g5 gn gc : Nat) (v : Value) (xs : List Int) (k : Nat) (a : Nat) (q : List Nat) (ha : a ≠ 0 ∧ a ≠ 4 ∧ a ≠ 2 ∧ a ≠ 7) (h5 : ¬ 1 :: a :: q <+: [1, 5, 1]) : Stab (1 :: a :: q) (rngI w g2 g3 g4 g5 gn gc v xs k) := by
  rintro W OW W' OW' ⟨h1, h2, h3, h4, h6, h7, t⟩ tt
  obtain ⟨a0, a4, a2, a7⟩ := ha
  exact ⟨h1.keep tt (by simp [a0]) (by simp [a0]), h2.keep tt (by simp [a0]) (by simp [a0]), h3.keep tt (by simp [a4]), h4.keep tt (by simp [a2]), h6.keep tt (by simp [a7]), h7.keep tt h5, t.trans (tt.up (by simp))⟩

set_option maxRecDepth 100000 in
set_option maxHeartbeats 16000000 in
theorem queues (w : World) (v : Value) (xs : List Op1) (h : EOp.In w v xs) (hrg : ∀ x ∈ xs, EOp.Rng x) : Calls Try.prog 11 #[v] w fun e w' => e = .returned (.bool true) ∧ Below w.heap.size w w' := by
  refine calls_marks (fn := Try.f11) Try.func11 rfl ?_
  simp only [Try.ntmps11, List.size_toArray, List.length_cons, List.length_nil, Nat.reduceAdd, Nat.reduceSub, Array.replicate_succ, Array.replicate_zero, List.push_toArray, List.append_toArray, List.nil_append, List.cons_append]
  go_wp2_with fail
  refine (EOp.few _ v xs 400 (h.new_ ((Below.refl _ _).alloc (Nat.le_refl _) _)) (by omega)).mono ?_
  rintro e w0 ⟨v1, rfl, hin, hw0⟩
  rw [hw0]
  clear hw0 w0
  obtain ⟨A, cap, hA, hl1, hl2, hcov0⟩ := h
  have hlen : (xs.take 400).length ≤ 400 := by rw [List.length_take]; omega
  have hrg' : ∀ x ∈ xs.take 400, EOp.Rng x := fun x hx => hrg x (List.mem_of_mem_take hx)
  generalize xs.take 400 = ys at *
  clear hrg hcov0 hl1 hl2 hA A cap
  obtain ⟨A, cap, rfl, -, -, hcov⟩ := hin
  have Hc := Lib.hid (cov_old w _ A ys hcov)
  have Hrg := Lib.hid hrg'
  clear hcov hrg'
  go_wp2_with fail
  refine gen_world (fourQ w) (four_q w _ _ _ _) ?_
  rintro w1 ⟨ow1, hr, hs, hp, hb, t⟩
  generalize hg : w.heap.size = g2 at *
  generalize hg5 : g2 + 1 + 1 + 1 = g5 at *
  generalize hg4 : g2 + 1 + 1 = g4 at *
  generalize hg3 : g2 + 1 = g3 at *
  go_loopg [6] ys.length (fun gn i wr => quRel w g2 g3 g4 g5 ys.length gn i wr)
  case atStart => exact ⟨0, ow1, [], .slice none 0 0, rfl, Nat.zero_le _, rfl, Nat.le_refl _, (fun x hx => by cases hx), hs, hp, Row.nil _ _ _ _ _, hb, hr, t⟩
  case round =>
    clear hs hp hb hr t hg hg3 hg4 hg5
    obtain ⟨k, OW, xs, v5, hgk, hk, rfl, hxl, hxr, hs, hp, hw, hb, hr, t⟩ := hrel
    have Hgk := Lib.hid hgk
    have Hxr := Lib.hid hxr
    clear hgk hxr
    by_cases hlt : k < ys.length
    · obtain ⟨o, ho⟩ : ∃ o, ys[k]? = some o := ⟨_, List.getElem?_eq_getElem hlt⟩
      obtain ⟨-, -, hor⟩ := Hrg.out o (List.mem_of_getElem? ho)
      obtain ⟨b, off, rfl, c0, c1, c2⟩ := (Hc.out.new_ (t.new_ ow0 [1]).below).at k o ho
      have i0 : (k : Int) < (ys.length : Int) := by omega
      clear ho
      go_upto_if 32 with fail
      obtain ⟨owx, bx, nn, -⟩ := add_cells wr OW [1, 3] [.int .i64 o.kind, .int .i64 o.level, .int .i64 o.n] 59
      refine gen_world (fun W => ∃ OW, EInt.Q W OW [1, 0, 0] g3 0 xs ∧ EPr.Q W OW [1, 0, 1] g4 0 (xs.map mkP) ∧ Row W OW [1, 4] 3 1 v5 xs.length (EInt.css xs) ∧ Cells W OW [1, 2] g5 0 [v5] ∧ Cells W OW [1, 7] g2 0 [.bool false] ∧ Cells W OW [1, 3] wr.heap.size 0 [.int .i64 o.kind, .int .i64 o.level, .int .i64 o.n] ∧ Turn [1] w ow0 W OW) ⟨owx, hs.new_ nn, hp.new_ nn, hw.new_ nn, hb.new_ nn, hr.new_ nn, bx, t.trans (nn.turn [1])⟩ ?_
      clear hs hp hw hb hr t bx nn owx c0 c1 c2
      rintro w2 ⟨ow2, hs, hp, hw, hb, hr, ho, t⟩
      generalize wr.heap.size = gx at *
      have o0 := ho.get 0 rfl
      have o2 := ho.get 2 rfl
      simp only [Nat.zero_add] at o0 o2
      go_cut [] from 30 to 32 (fun wx => quMid w g2 g3 g4 g5 gx o (k + 1) wx)
      case first =>
        by_cases k0 : o.kind = 0
        · have b0 : (o.kind == 0) = true := beq_iff_eq.2 k0
          clear k0
          go_wp2_with fail
          refine (EInt.q_put w2 ow2 [1, 0, 0] g3 0 xs o.n hs (by omega)).mono ?_
          rintro e w11 ⟨ow11, rfl, hn', tt⟩
          replace hp := hp.keep tt (by simp) (by simp)
          replace hw := hw.keep tt (by simp)
          replace hb := hb.keep tt (by simp)
          replace hr := hr.keep tt (by simp)
          replace ho := ho.keep tt (by simp)
          replace t := t.trans (tt.up (by simp))
          clear hs tt
          have hs := hn'
          clear hn'
          clear o0 o2
          have o0 := ho.get 0 rfl
          have o2 := ho.get 2 rfl
          simp only [Nat.zero_add] at o0 o2
          go_wp2_with fail
          refine (pair w11 o.n hor).mono ?_
          rintro e w12 ⟨rfl, bb⟩
          have nn := bb.nw ow11
          replace hs := hs.new_ nn
          replace hp := hp.new_ nn
          replace hw := hw.new_ nn
          replace hb := hb.new_ nn
          replace hr := hr.new_ nn
          replace ho := ho.new_ nn
          replace t := t.trans (nn.turn [1])
          clear nn
          clear bb
          clear o0 o2
          have o0 := ho.get 0 rfl
          have o2 := ho.get 2 rfl
          simp only [Nat.zero_add] at o0 o2
          go_wp2_with fail
          refine (EPr.q_put w12 ow11 [1, 0, 1] g4 0 _ (mkP o.n) hp (by rw [List.length_map]; omega)).mono ?_
          rintro e w13 ⟨ow13, rfl, hn', tt⟩
          replace hs := hs.keep tt (by simp) (by simp)
          replace hw := hw.keep tt (by simp)
          replace hb := hb.keep tt (by simp)
          replace hr := hr.keep tt (by simp)
          replace ho := ho.keep tt (by simp)
          replace t := t.trans (tt.up (by simp))
          clear hp tt
          have hp := hn'
          clear hn'
          clear o0 o2
          have o0 := ho.get 0 rfl
          have o2 := ho.get 2 rfl
          simp only [Nat.zero_add] at o0 o2
          obtain ⟨A5, c5, rfl, hnc⟩ := hw.slice
          have b5 := hb.get0
          go_wp2_with (at_builtin; refine wpList_append_row rfl (.tmp 40) (.tmp 43) 22 22 rfl 3 _ 1 8 Try.underlying22 EInt.info rfl rfl (hw.alloc_ _) rfl ((Reads.new _ (EInt.cs o.n) _ 1 1 (Nat.le_refl _)).src Try.underlying22 rfl (EInt.cs_one o.n)) (by unfold maxLen; omega) (by omega) ?_)
          intro v' w20 ow20 hrow' ht'
          obtain ⟨A20, c20, rfl, hnc20⟩ := hrow'.slice
          have tt := ((Turn.refl [1, 4] w13 ow13).alloc_ (.cells (EInt.cs o.n).toArray 3)).trans ht'
          replace hs := hs.keep tt (by simp) (by simp)
          replace hp := hp.keep tt (by simp) (by simp)
          replace hb := hb.keep tt (by simp)
          replace hr := hr.keep tt (by simp)
          replace ho := ho.keep tt (by simp)
          replace t := t.trans (tt.up (by simp))
          clear hw tt ht' hnc b5
          rw [← EInt.css_snoc] at hrow'
          have b5 := hb.get0
          have f5 := hb.free 0
          have l5 := hb.lt
          go_wp2_with fail
          have tt := hb.turn 0 (.slice A20 (xs.length + 1) c20) (by simp)
          have hb' := hb.set0 (.slice A20 (xs.length + 1) c20)
          go_meet
          exact ⟨ow20, xs ++ [o.n], .slice A20 (xs.length + 1) c20, by rw [List.length_append, List.length_cons, List.length_nil]; omega, (fun x hx => by
            rcases List.mem_append.1 hx with hx | hx
            · exact Hxr.out x hx
            · obtain rfl : x = o.n := by simpa using hx
              exact hor), hs.keep tt (by simp) (by simp), by rw [List.map_append]; exact hp.keep tt (by simp) (by simp), by rw [List.length_append]; exact hrow'.keep tt (by simp), hb', hr.keep tt (by simp), ho.keep tt (by simp), t.trans (tt.up (by simp))⟩
        · have b0 : (o.kind == 0) = false := beq_eq_false_iff_ne.2 k0
          clear k0
          go_wp2_with fail
          go_meet
          exact ⟨ow2, xs, v5, by omega, Hxr.out, hs, hp, hw, hb, hr, ho, t⟩
      case rest =>
        clear hs hp hw hb hr ho t Hxr hxl o0 o2
        obtain ⟨ow3, xs, v5, hxl, hxr, hs, hp, hw, hb, hr, ho, t⟩ := hcut
        have Hxr := Lib.hid hxr
        clear hxr
        obtain ⟨w3, rfl⟩ : ∃ w3 : World, w3 = wc := ⟨_, rfl⟩
        obtain ⟨A5, c5, rfl, hnc⟩ := hw.slice
        have o0 := ho.get 0 rfl
        have o2 := ho.get 2 rfl
        simp only [Nat.zero_add] at o0 o2
        go_upto_if 47 with fail
        go_cut [] from 45 to 47 (fun wx => quMid w g2 g3 g4 g5 gx o (k + 1) wx)
        case first =>
          by_cases k1 : o.kind = 1
          · have b1 : (o.kind == 1) = true := beq_iff_eq.2 k1
            clear k1 o2
            rcases hxs : xs with _ | ⟨x, zs⟩
            · subst hxs
              go_wp2_with fail
              refine (EInt.q_take_none w3 ow3 [1, 0, 0] g3 0 hs).mono ?_
              rintro e w31 ⟨rfl, bb⟩
              have nn := bb.nw ow3
              replace hs := hs.new_ nn
              replace hp := hp.new_ nn
              replace hw := hw.new_ nn
              replace hb := hb.new_ nn
              replace hr := hr.new_ nn
              replace ho := ho.new_ nn
              replace t := t.trans (nn.turn [1])
              clear nn
              clear bb
              go_wp2_with fail
              refine (EPr.q_take_none w31 ow3 [1, 0, 1] g4 0 hp).mono ?_
              rintro e w32 ⟨rfl, bb⟩
              have nn := bb.nw ow3
              replace hs := hs.new_ nn
              replace hp := hp.new_ nn
              replace hw := hw.new_ nn
              replace hb := hb.new_ nn
              replace hr := hr.new_ nn
              replace ho := ho.new_ nn
              replace t := t.trans (nn.turn [1])
              clear nn
              clear bb
              go_wp2_with fail
              obtain ⟨owx, bx, nn, -⟩ := add_cells w32 ow3 [9, 33] [.int .i64 0, .string ⟨#[]⟩] 62
              refine gen_world (fun W => ∃ OW, EInt.Q W OW [1, 0, 0] g3 0 ([] : List Int) ∧ EPr.Q W OW [1, 0, 1] g4 0 (([] : List Int).map mkP) ∧ Row W OW [1, 4] 3 1 (.slice A5 ([] : List Int).length c5) (([] : List Int)).length (EInt.css (([] : List Int))) ∧ Cells W OW [1, 2] g5 0 [.slice A5 ([] : List Int).length c5] ∧ Cells W OW [1, 7] g2 0 [.bool false] ∧ Cells W OW [1, 3] gx 0 [.int .i64 o.kind, .int .i64 o.level, .int .i64 o.n] ∧ Cells W OW [9, 33] w32.heap.size 0 [.int .i64 0, .string ⟨#[]⟩] ∧ Turn [1] w ow0 W OW) ⟨owx, hs.new_ nn, hp.new_ nn, hw.new_ nn, hb.new_ nn, hr.new_ nn, ho.new_ nn, bx, t.trans (nn.turn [1])⟩ ?_
              clear hs hp hw hb hr ho bx t nn owx
              rintro w33 ⟨ow33, hs, hp, hw, hb, hr, ho, hz, t⟩
              generalize w32.heap.size = gz at *
              have z0 := hz.get 0 rfl
              have z1 := hz.get 1 rfl
              simp only [Nat.zero_add] at z0 z1
              have b5 := hb.get0
              refine plain_regionN (fun W' : World => W'.cell? ⟨gz, 0, none⟩ = some (.int .i64 0) ∧ W'.cell? ⟨gz, 1, none⟩ = some (.string ⟨#[]⟩) ∧ W'.cell? ⟨g5, 0, none⟩ = some (.slice A5 0 c5)) [] (by kernel_rfl) ?_
              have hS : (fun W' : World => W'.cell? ⟨gz, 0, none⟩ = some (.int .i64 0) ∧ W'.cell? ⟨gz, 1, none⟩ = some (.string ⟨#[]⟩) ∧ W'.cell? ⟨g5, 0, none⟩ = some (.slice A5 0 c5)) w33.drew := ⟨z0, z1, b5⟩
              refine anyX_takeNL 0 (v := ?_) rfl rfl (by as_aux_lemma => kernel_rfl) (by as_aux_lemma => kernel_rfl) (by as_aux_lemma => kernel_rfl) (by as_aux_lemma => kernel_rfl) (by as_aux_lemma => kernel_rfl) (fun _ _ _ h => h) rfl ?_ hS ?_
              rotate_left
              · intro W' hW'
                obtain ⟨s0, s1, s2⟩ := hW'
                all_goals (go_simp; first | done | rfl)
              intro l' hl
              dsimp only [List.set_cons_succ, List.set_cons_zero] at hl
              subst hl
              refine anyX_takeNL 1 (v := ?_) rfl rfl (by as_aux_lemma => kernel_rfl) (by as_aux_lemma => kernel_rfl) (by as_aux_lemma => kernel_rfl) (by as_aux_lemma => kernel_rfl) (by as_aux_lemma => kernel_rfl) (fun _ _ _ h => h) rfl ?_ hS ?_
              rotate_left
              · intro W' hW'
                obtain ⟨s0, s1, s2⟩ := hW'
                all_goals (go_simp; first | done | rfl)
              intro l' hl
              dsimp only [List.set_cons_succ, List.set_cons_zero] at hl
              subst hl
              refine anyX_takeNL 2 (v := ?_) rfl rfl (by as_aux_lemma => kernel_rfl) (by as_aux_lemma => kernel_rfl) (by as_aux_lemma => kernel_rfl) (by as_aux_lemma => kernel_rfl) (by as_aux_lemma => kernel_rfl) (fun _ _ _ h => h) rfl ?_ hS ?_
              rotate_left
              · intro W' hW'
                obtain ⟨s0, s1, s2⟩ := hW'
                all_goals (go_simp; first | done | rfl)
              intro l' hl
              dsimp only [List.set_cons_succ, List.set_cons_zero] at hl
              subst hl
              refine anyX_takeNL 3 (v := ?_) rfl rfl (by as_aux_lemma => kernel_rfl) (by as_aux_lemma => kernel_rfl) (by as_aux_lemma => kernel_rfl) (by as_aux_lemma => kernel_rfl) (by as_aux_lemma => kernel_rfl) (fun _ _ _ h => h) rfl ?_ hS ?_
              rotate_left
              · intro W' hW'
                obtain ⟨s0, s1, s2⟩ := hW'
                all_goals (go_simp; first | done | rfl)
              intro l' hl
              dsimp only [List.set_cons_succ, List.set_cons_zero] at hl
              subst hl
              refine anyX_takeNL 4 (v := ?_) rfl rfl (by as_aux_lemma => kernel_rfl) (by as_aux_lemma => kernel_rfl) (by as_aux_lemma => kernel_rfl) (by as_aux_lemma => kernel_rfl) (by as_aux_lemma => kernel_rfl) (fun _ _ _ h => h) rfl ?_ hS ?_
              rotate_left
              · intro W' hW'
                obtain ⟨s0, s1, s2⟩ := hW'
                all_goals (go_simp; first | done | rfl)
              intro l' hl
              dsimp only [List.set_cons_succ, List.set_cons_zero] at hl
              subst hl
              refine anyX_takeNL 5 (v := ?_) rfl rfl (by as_aux_lemma => kernel_rfl) (by as_aux_lemma => kernel_rfl) (by as_aux_lemma => kernel_rfl) (by as_aux_lemma => kernel_rfl) (by as_aux_lemma => kernel_rfl) (fun _ _ _ h => h) rfl ?_ hS ?_
              rotate_left
              · intro W' hW'
                obtain ⟨s0, s1, s2⟩ := hW'
                all_goals (go_simp; first | done | rfl)
              intro l' hl
              dsimp only [List.set_cons_succ, List.set_cons_zero] at hl
              subst hl
              refine anyX_takeWL 6 (v := ?_) rfl rfl (by as_aux_lemma => kernel_rfl) (by as_aux_lemma => kernel_rfl) (by as_aux_lemma => kernel_rfl) (by as_aux_lemma => kernel_rfl) (by as_aux_lemma => kernel_rfl) (fun _ _ _ h => h) (by rfl) ?_ hS ?_
              rotate_left
              · intro W' hW'
                obtain ⟨s0, s1, s2⟩ := hW'
                all_goals (go_simp; first | done | rfl)
              intro l' hl
              dsimp only [List.set_cons_succ, List.set_cons_zero] at hl
              subst hl
              refine anyX_takeWL 7 (v := ?_) rfl rfl (by as_aux_lemma => kernel_rfl) (by as_aux_lemma => kernel_rfl) (by as_aux_lemma => kernel_rfl) (by as_aux_lemma => kernel_rfl) (by as_aux_lemma => kernel_rfl) (fun _ _ _ h => h) (by rfl) ?_ hS ?_
              rotate_left
              · intro W' hW'
                obtain ⟨s0, s1, s2⟩ := hW'
                all_goals (go_simp; first | done | rfl)
              intro l' hl
              dsimp only [List.set_cons_succ, List.set_cons_zero] at hl
              subst hl
              refine anyX_takeWL 8 (v := ?_) rfl rfl (by as_aux_lemma => kernel_rfl) (by as_aux_lemma => kernel_rfl) (by as_aux_lemma => kernel_rfl) (by as_aux_lemma => kernel_rfl) (by as_aux_lemma => kernel_rfl) (fun _ _ _ h => h) (by rfl) ?_ hS ?_
              rotate_left
              · intro W' hW'
                obtain ⟨s0, s1, s2⟩ := hW'
                all_goals (go_simp; first | done | rfl)
              intro l' hl
              dsimp only [List.set_cons_succ, List.set_cons_zero] at hl
              subst hl
              refine anyX_takeNL 9 (v := ?_) rfl rfl (by as_aux_lemma => kernel_rfl) (by as_aux_lemma => kernel_rfl) (by as_aux_lemma => kernel_rfl) (by as_aux_lemma => kernel_rfl) (by as_aux_lemma => kernel_rfl) (fun _ _ _ h => h) rfl ?_ hS ?_
              rotate_left
              · intro W' hW'
                obtain ⟨s0, s1, s2⟩ := hW'
                all_goals (go_simp; first | done | rfl)
              intro l' hl
              dsimp only [List.set_cons_succ, List.set_cons_zero] at hl
              subst hl
              refine anyX_takeNL 10 (v := ?_) rfl rfl (by as_aux_lemma => kernel_rfl) (by as_aux_lemma => kernel_rfl) (by as_aux_lemma => kernel_rfl) (by as_aux_lemma => kernel_rfl) (by as_aux_lemma => kernel_rfl) (fun _ _ _ h => h) rfl ?_ hS ?_
              rotate_left
              · intro W' hW'
                obtain ⟨s0, s1, s2⟩ := hW'
                all_goals (go_simp; first | done | rfl)
              intro l' hl
              dsimp only [List.set_cons_succ, List.set_cons_zero] at hl
              subst hl
              refine anyX_takeWL 11 (v := ?_) rfl rfl (by as_aux_lemma => kernel_rfl) (by as_aux_lemma => kernel_rfl) (by as_aux_lemma => kernel_rfl) (by as_aux_lemma => kernel_rfl) (by as_aux_lemma => kernel_rfl) (fun _ _ _ h => h) (by rfl) ?_ hS ?_
              rotate_left
              · intro W' hW'
                obtain ⟨s0, s1, s2⟩ := hW'
                all_goals (go_simp; first | done | rfl)
              intro l' hl
              dsimp only [List.set_cons_succ, List.set_cons_zero] at hl
              subst hl
              refine anyX_takeWL 12 (v := ?_) rfl rfl (by as_aux_lemma => kernel_rfl) (by as_aux_lemma => kernel_rfl) (by as_aux_lemma => kernel_rfl) (by as_aux_lemma => kernel_rfl) (by as_aux_lemma => kernel_rfl) (fun _ _ _ h => h) (by rfl) ?_ hS ?_
              rotate_left
              · intro W' hW'
                obtain ⟨s0, s1, s2⟩ := hW'
                all_goals (go_simp; first | done | rfl)
              intro l' hl
              dsimp only [List.set_cons_succ, List.set_cons_zero] at hl
              subst hl
              refine anyX_takeUL 13 rfl rfl (by as_aux_lemma => kernel_rfl) (by as_aux_lemma => kernel_rfl) (by as_aux_lemma => kernel_rfl) (by as_aux_lemma => kernel_rfl) (by as_aux_lemma => kernel_rfl) (fun _ _ _ h => h) (by rfl) hS ?_
              intro l' hl
              dsimp only [List.set_cons_succ, List.set_cons_zero] at hl
              subst hl
              refine anyX_takeUL 14 rfl rfl (by as_aux_lemma => kernel_rfl) (by as_aux_lemma => kernel_rfl) (by as_aux_lemma => kernel_rfl) (by as_aux_lemma => kernel_rfl) (by as_aux_lemma => kernel_rfl) (fun _ _ _ h => h) (by rfl) hS ?_
              intro l' hl
              dsimp only [List.set_cons_succ, List.set_cons_zero] at hl
              subst hl
              refine anyX_takeUL 15 rfl rfl (by as_aux_lemma => kernel_rfl) (by as_aux_lemma => kernel_rfl) (by as_aux_lemma => kernel_rfl) (by as_aux_lemma => kernel_rfl) (by as_aux_lemma => kernel_rfl) (fun _ _ _ h => h) (by rfl) hS ?_
              intro l' hl
              dsimp only [List.set_cons_succ, List.set_cons_zero] at hl
              subst hl
              refine anyX_takeUL 16 rfl rfl (by as_aux_lemma => kernel_rfl) (by as_aux_lemma => kernel_rfl) (by as_aux_lemma => kernel_rfl) (by as_aux_lemma => kernel_rfl) (by as_aux_lemma => kernel_rfl) (fun _ _ _ h => h) (by rfl) hS ?_
              intro l' hl
              dsimp only [List.set_cons_succ, List.set_cons_zero] at hl
              subst hl
              refine anyX_takeUL 17 rfl rfl (by as_aux_lemma => kernel_rfl) (by as_aux_lemma => kernel_rfl) (by as_aux_lemma => kernel_rfl) (by as_aux_lemma => kernel_rfl) (by as_aux_lemma => kernel_rfl) (fun _ _ _ h => h) (by rfl) hS ?_
              intro l' hl
              dsimp only [List.set_cons_succ, List.set_cons_zero] at hl
              subst hl
              refine anyX_takeUL 18 rfl rfl (by as_aux_lemma => kernel_rfl) (by as_aux_lemma => kernel_rfl) (by as_aux_lemma => kernel_rfl) (by as_aux_lemma => kernel_rfl) (by as_aux_lemma => kernel_rfl) (fun _ _ _ h => h) (by rfl) hS ?_
              intro l' hl
              dsimp only [List.set_cons_succ, List.set_cons_zero] at hl
              subst hl
              refine anyX_takeUL 19 rfl rfl (by as_aux_lemma => kernel_rfl) (by as_aux_lemma => kernel_rfl) (by as_aux_lemma => kernel_rfl) (by as_aux_lemma => kernel_rfl) (by as_aux_lemma => kernel_rfl) (fun _ _ _ h => h) (by rfl) hS ?_
              intro l' hl
              dsimp only [List.set_cons_succ, List.set_cons_zero] at hl
              subst hl
              refine anyX_takeUL 20 rfl rfl (by as_aux_lemma => kernel_rfl) (by as_aux_lemma => kernel_rfl) (by as_aux_lemma => kernel_rfl) (by as_aux_lemma => kernel_rfl) (by as_aux_lemma => kernel_rfl) (fun _ _ _ h => h) (by rfl) hS ?_
              intro l' hl
              dsimp only [List.set_cons_succ, List.set_cons_zero] at hl
              subst hl
              refine anyX_takeUL 21 rfl rfl (by as_aux_lemma => kernel_rfl) (by as_aux_lemma => kernel_rfl) (by as_aux_lemma => kernel_rfl) (by as_aux_lemma => kernel_rfl) (by as_aux_lemma => kernel_rfl) (fun _ _ _ h => h) (by rfl) hS ?_
              intro l' hl
              dsimp only [List.set_cons_succ, List.set_cons_zero] at hl
              subst hl
              refine anyX_takeUL 22 rfl rfl (by as_aux_lemma => kernel_rfl) (by as_aux_lemma => kernel_rfl) (by as_aux_lemma => kernel_rfl) (by as_aux_lemma => kernel_rfl) (by as_aux_lemma => kernel_rfl) (fun _ _ _ h => h) (by rfl) hS ?_
              intro l' hl
              dsimp only [List.set_cons_succ, List.set_cons_zero] at hl
              subst hl
              refine anyX_takeUL 23 rfl rfl (by as_aux_lemma => kernel_rfl) (by as_aux_lemma => kernel_rfl) (by as_aux_lemma => kernel_rfl) (by as_aux_lemma => kernel_rfl) (by as_aux_lemma => kernel_rfl) (fun _ _ _ h => h) (by rfl) hS ?_
              intro l' hl
              dsimp only [List.set_cons_succ, List.set_cons_zero] at hl
              subst hl
              refine anyX_takeWL 24 (v := ?_) rfl rfl (by as_aux_lemma => kernel_rfl) (by as_aux_lemma => kernel_rfl) (by as_aux_lemma => kernel_rfl) (by as_aux_lemma => kernel_rfl) (by as_aux_lemma => kernel_rfl) (fun _ _ _ h => h) (by rfl) ?_ hS ?_
              rotate_left
              · intro W' hW'
                obtain ⟨s0, s1, s2⟩ := hW'
                all_goals (go_simp; first | done | rfl)
              intro l' hl
              dsimp only [List.set_cons_succ, List.set_cons_zero] at hl
              subst hl
              refine anyX_takeNL 25 (v := ?_) rfl rfl (by as_aux_lemma => kernel_rfl) (by as_aux_lemma => kernel_rfl) (by as_aux_lemma => kernel_rfl) (by as_aux_lemma => kernel_rfl) (by as_aux_lemma => kernel_rfl) (fun _ _ _ h => h) rfl ?_ hS ?_
              rotate_left
              · intro W' hW'
                obtain ⟨s0, s1, s2⟩ := hW'
                all_goals (go_simp; first | done | rfl)
              intro l' hl
              dsimp only [List.set_cons_succ, List.set_cons_zero] at hl
              subst hl
              refine anyX_takeNL 26 (v := ?_) rfl rfl (by as_aux_lemma => kernel_rfl) (by as_aux_lemma => kernel_rfl) (by as_aux_lemma => kernel_rfl) (by as_aux_lemma => kernel_rfl) (by as_aux_lemma => kernel_rfl) (fun _ _ _ h => h) rfl ?_ hS ?_
              rotate_left
              · intro W' hW'
                obtain ⟨s0, s1, s2⟩ := hW'
                all_goals (go_simp; first | done | rfl)
              intro l' hl
              dsimp only [List.set_cons_succ, List.set_cons_zero] at hl
              subst hl
              refine anyX_takeWL 27 (v := ?_) rfl rfl (by as_aux_lemma => kernel_rfl) (by as_aux_lemma => kernel_rfl) (by as_aux_lemma => kernel_rfl) (by as_aux_lemma => kernel_rfl) (by as_aux_lemma => kernel_rfl) (fun _ _ _ h => h) (by rfl) ?_ hS ?_
              rotate_left
              · intro W' hW'
                obtain ⟨s0, s1, s2⟩ := hW'
                all_goals (go_simp; first | done | rfl)
              intro l' hl
              dsimp only [List.set_cons_succ, List.set_cons_zero] at hl
              subst hl
              refine anyX_takeWL 28 (v := ?_) rfl rfl (by as_aux_lemma => kernel_rfl) (by as_aux_lemma => kernel_rfl) (by as_aux_lemma => kernel_rfl) (by as_aux_lemma => kernel_rfl) (by as_aux_lemma => kernel_rfl) (fun _ _ _ h => h) (by rfl) ?_ hS ?_
              rotate_left
              · intro W' hW'
                obtain ⟨s0, s1, s2⟩ := hW'
                all_goals (go_simp; first | done | rfl)
              intro l' hl
              dsimp only [List.set_cons_succ, List.set_cons_zero] at hl
              subst hl
              refine anyX_takeWL 29 (v := ?_) rfl rfl (by as_aux_lemma => kernel_rfl) (by as_aux_lemma => kernel_rfl) (by as_aux_lemma => kernel_rfl) (by as_aux_lemma => kernel_rfl) (by as_aux_lemma => kernel_rfl) (fun _ _ _ h => h) (by rfl) ?_ hS ?_
              rotate_left
              · intro W' hW'
                obtain ⟨s0, s1, s2⟩ := hW'
                all_goals (go_simp; first | done | rfl)
              intro l' hl
              dsimp only [List.set_cons_succ, List.set_cons_zero] at hl
              subst hl
              refine anyX_takeWL 30 (v := ?_) rfl rfl (by as_aux_lemma => kernel_rfl) (by as_aux_lemma => kernel_rfl) (by as_aux_lemma => kernel_rfl) (by as_aux_lemma => kernel_rfl) (by as_aux_lemma => kernel_rfl) (fun _ _ _ h => h) (by rfl) ?_ hS ?_
              rotate_left
              · intro W' hW'
                obtain ⟨s0, s1, s2⟩ := hW'
                all_goals (go_simp; first | done | rfl)
              intro l' hl
              dsimp only [List.set_cons_succ, List.set_cons_zero] at hl
              subst hl
              refine anyX_takeWL 31 (v := ?_) rfl rfl (by as_aux_lemma => kernel_rfl) (by as_aux_lemma => kernel_rfl) (by as_aux_lemma => kernel_rfl) (by as_aux_lemma => kernel_rfl) (by as_aux_lemma => kernel_rfl) (fun _ _ _ h => h) (by rfl) ?_ hS ?_
              rotate_left
              · intro W' hW'
                obtain ⟨s0, s1, s2⟩ := hW'
                all_goals (go_simp; first | done | rfl)
              intro l' hl
              dsimp only [List.set_cons_succ, List.set_cons_zero] at hl
              subst hl
              refine anyX_takeWL 32 (v := ?_) rfl rfl (by as_aux_lemma => kernel_rfl) (by as_aux_lemma => kernel_rfl) (by as_aux_lemma => kernel_rfl) (by as_aux_lemma => kernel_rfl) (by as_aux_lemma => kernel_rfl) (fun _ _ _ h => h) (by rfl) ?_ hS ?_
              rotate_left
              · intro W' hW'
                obtain ⟨s0, s1, s2⟩ := hW'
                all_goals (go_simp; first | done | rfl)
              intro l' hl
              dsimp only [List.set_cons_succ, List.set_cons_zero] at hl
              subst hl
              refine anyX_takeWL 33 (v := ?_) rfl rfl (by as_aux_lemma => kernel_rfl) (by as_aux_lemma => kernel_rfl) (by as_aux_lemma => kernel_rfl) (by as_aux_lemma => kernel_rfl) (by as_aux_lemma => kernel_rfl) (fun _ _ _ h => h) (by rfl) ?_ hS ?_
              rotate_left
              · intro W' hW'
                obtain ⟨s0, s1, s2⟩ := hW'
                all_goals (go_simp; first | done | rfl)
              intro l' hl
              dsimp only [List.set_cons_succ, List.set_cons_zero] at hl
              subst hl
              refine anyX_takeWL 34 (v := ?_) rfl rfl (by as_aux_lemma => kernel_rfl) (by as_aux_lemma => kernel_rfl) (by as_aux_lemma => kernel_rfl) (by as_aux_lemma => kernel_rfl) (by as_aux_lemma => kernel_rfl) (fun _ _ _ h => h) (by rfl) ?_ hS ?_
              rotate_left
              · intro W' hW'
                obtain ⟨s0, s1, s2⟩ := hW'
                all_goals (go_simp; first | done | rfl)
              intro l' hl
              dsimp only [List.set_cons_succ, List.set_cons_zero] at hl
              subst hl
              refine anyX_takeWL 35 (v := ?_) rfl rfl (by as_aux_lemma => kernel_rfl) (by as_aux_lemma => kernel_rfl) (by as_aux_lemma => kernel_rfl) (by as_aux_lemma => kernel_rfl) (by as_aux_lemma => kernel_rfl) (fun _ _ _ h => h) (by rfl) ?_ hS ?_
              rotate_left
              · intro W' hW'
                obtain ⟨s0, s1, s2⟩ := hW'
                all_goals (go_simp; first | done | rfl)
              intro l' hl
              dsimp only [List.set_cons_succ, List.set_cons_zero] at hl
              subst hl
              refine anyX_takeWL 36 (v := ?_) rfl rfl (by as_aux_lemma => kernel_rfl) (by as_aux_lemma => kernel_rfl) (by as_aux_lemma => kernel_rfl) (by as_aux_lemma => kernel_rfl) (by as_aux_lemma => kernel_rfl) (fun _ _ _ h => h) (by rfl) ?_ hS ?_
              rotate_left
              · intro W' hW'
                obtain ⟨s0, s1, s2⟩ := hW'
                all_goals (go_simp; first | done | rfl)
              intro l' hl
              dsimp only [List.set_cons_succ, List.set_cons_zero] at hl
              subst hl
              refine anyX_takeWL 37 (v := ?_) rfl rfl (by as_aux_lemma => kernel_rfl) (by as_aux_lemma => kernel_rfl) (by as_aux_lemma => kernel_rfl) (by as_aux_lemma => kernel_rfl) (by as_aux_lemma => kernel_rfl) (fun _ _ _ h => h) (by rfl) ?_ hS ?_
              rotate_left
              · intro W' hW'
                obtain ⟨s0, s1, s2⟩ := hW'
                all_goals (go_simp; first | done | rfl)
              intro l' hl
              dsimp only [List.set_cons_succ, List.set_cons_zero] at hl
              subst hl
              refine anyX_takeNL 38 (v := ?_) rfl rfl (by as_aux_lemma => kernel_rfl) (by as_aux_lemma => kernel_rfl) (by as_aux_lemma => kernel_rfl) (by as_aux_lemma => kernel_rfl) (by as_aux_lemma => kernel_rfl) (fun _ _ _ h => h) rfl ?_ hS ?_
              rotate_left
              · intro W' hW'
                obtain ⟨s0, s1, s2⟩ := hW'
                all_goals (go_simp; first | done | rfl)
              intro l' hl
              dsimp only [List.set_cons_succ, List.set_cons_zero] at hl
              subst hl
              refine anyX_done (by kernel_rfl) ?_ _
              refine NoPanic.normal ?_
              clear hS z0 z1 b5
              go_wp2_with fail
              go_meet
              exact ⟨ow33, [], .slice A5 0 c5, by simp, (fun x hx => by cases hx), hs, hp, hw, hb, hr, ho, t.drew⟩
            · have hlx : xs.length = zs.length + 1 := by rw [hxs, List.length_cons]
              have hfirst : xs[0]? = some x := by rw [hxs]; rfl
              have hzr : ∀ y ∈ zs, EInt.Rng y := fun y hy => Hxr.out y (by rw [hxs]; exact List.mem_cons_of_mem _ hy)
              have hxr : EInt.Rng x := Hxr.out x (by rw [hxs]; exact List.mem_cons_self)
              obtain ⟨g9, off9, cap5, hv, hcc, hmx, -⟩ := hw.at (by omega)
              simp only [Value.slice.injEq] at hv
              obtain ⟨rfl, -, rfl⟩ := hv
              have i1 : (0 : Int) < (xs.length : Int) := by omega
              have i6 : decide (0 < xs.length) = true := decide_eq_true (by omega)
              have i7 : 0 < xs.length := by omega
              have Hzr := Lib.hid hzr
              have Hlx := Lib.hid hlx
              have Hxs := Lib.hid hxs
              have hm1 : xs.map mkP = mkP x :: zs.map mkP := by rw [hxs]; rfl
              rw [hxs] at hs
              rw [hm1] at hp
              clear hzr hlx hm1 hmx
              go_wp2_with fail
              refine (EInt.q_take_some w3 ow3 [1, 0, 0] g3 0 x zs hs (by have := Hlx.out; omega)).mono ?_
              rintro e w51 ⟨ow51, rfl, hn', tt⟩
              replace hp := hp.keep tt (by simp) (by simp)
              replace hw := hw.keep tt (by simp)
              replace hb := hb.keep tt (by simp)
              replace hr := hr.keep tt (by simp)
              replace ho := ho.keep tt (by simp)
              replace t := t.trans (tt.up (by simp))
              clear hs tt
              have hs := hn'
              clear hn'
              go_wp2_with fail
              refine (EPr.q_take_some w51 ow51 [1, 0, 1] g4 0 (mkP x) (zs.map mkP) hp (by rw [List.length_map]; have := Hlx.out; omega)).mono ?_
              rintro e w52 ⟨ow52, rfl, hn', tt⟩
              replace hs := hs.keep tt (by simp) (by simp)
              replace hw := hw.keep tt (by simp)
              replace hb := hb.keep tt (by simp)
              replace hr := hr.keep tt (by simp)
              replace ho := ho.keep tt (by simp)
              replace t := t.trans (tt.up (by simp))
              clear hp tt
              have hp := hn'
              clear hn'
              clear hxs
              go_wp2_with fail
              obtain ⟨owx, bx, nn, -⟩ := add_cells w52 ow52 [9, 53] [.int .i64 x, .string (tx x)] 62
              refine gen_world (fun W => ∃ OW, EInt.Q W OW [1, 0, 0] g3 0 zs ∧ EPr.Q W OW [1, 0, 1] g4 0 (zs.map mkP) ∧ Row W OW [1, 4] 3 1 (.slice (some ⟨g9, off9, none⟩) xs.length c5) (xs).length (EInt.css (xs)) ∧ Cells W OW [1, 2] g5 0 [.slice (some ⟨g9, off9, none⟩) xs.length c5] ∧ Cells W OW [1, 7] g2 0 [.bool false] ∧ Cells W OW [1, 3] gx 0 [.int .i64 o.kind, .int .i64 o.level, .int .i64 o.n] ∧ Cells W OW [9, 53] w52.heap.size 0 [.int .i64 x, .string (tx x)] ∧ Turn [1] w ow0 W OW) ⟨owx, hs.new_ nn, hp.new_ nn, hw.new_ nn, hb.new_ nn, hr.new_ nn, ho.new_ nn, bx, t.trans (nn.turn [1])⟩ ?_
              clear hs hp hw hb hr ho bx t nn owx
              rintro w53 ⟨ow53, hs, hp, hw, hb, hr, ho, hz, t⟩
              generalize w52.heap.size = gz at *
              have z0 := hz.get 0 rfl
              have z1 := hz.get 1 rfl
              simp only [Nat.zero_add] at z0 z1
              obtain ⟨-, -, -, hcell⟩ := hw.open_
              have e0 := hcell (0 * 1 + 0) _ (EInt.css_at xs 0 x hfirst 0 _ rfl (by omega))
              simp only [Nat.mul_one, Nat.add_zero, Nat.zero_mul] at e0
              have b5 := hb.get0
              clear hcell
              refine plain_regionN (fun W' : World => W'.cell? ⟨gz, 0, none⟩ = some (.int .i64 x) ∧ W'.cell? ⟨gz, 1, none⟩ = some (.string (tx x)) ∧ W'.cell? ⟨g9, off9, none⟩ = some (.int .i64 x) ∧ W'.cell? ⟨g5, 0, none⟩ = some (.slice (some ⟨g9, off9, none⟩) xs.length c5)) [] (by kernel_rfl) ?_
              have hS : (fun W' : World => W'.cell? ⟨gz, 0, none⟩ = some (.int .i64 x) ∧ W'.cell? ⟨gz, 1, none⟩ = some (.string (tx x)) ∧ W'.cell? ⟨g9, off9, none⟩ = some (.int .i64 x) ∧ W'.cell? ⟨g5, 0, none⟩ = some (.slice (some ⟨g9, off9, none⟩) xs.length c5)) w53.drew := ⟨z0, z1, e0, b5⟩
              refine anyX_takeNL 0 (v := ?_) rfl rfl (by as_aux_lemma => kernel_rfl) (by as_aux_lemma => kernel_rfl) (by as_aux_lemma => kernel_rfl) (by as_aux_lemma => kernel_rfl) (by as_aux_lemma => kernel_rfl) (fun _ _ _ h => h) rfl ?_ hS ?_
              rotate_left
              · intro W' hW'
                obtain ⟨s0, s1, s2, s3⟩ := hW'
                all_goals (go_simp; first | done | rfl)
              intro l' hl
              dsimp only [List.set_cons_succ, List.set_cons_zero] at hl
              subst hl
              refine anyX_takeNL 1 (v := ?_) rfl rfl (by as_aux_lemma => kernel_rfl) (by as_aux_lemma => kernel_rfl) (by as_aux_lemma => kernel_rfl) (by as_aux_lemma => kernel_rfl) (by as_aux_lemma => kernel_rfl) (fun _ _ _ h => h) rfl ?_ hS ?_
              rotate_left
              · intro W' hW'
                obtain ⟨s0, s1, s2, s3⟩ := hW'
                all_goals (go_simp; first | done | rfl)
              intro l' hl
              dsimp only [List.set_cons_succ, List.set_cons_zero] at hl
              subst hl
              refine anyX_takeNL 2 (v := ?_) rfl rfl (by as_aux_lemma => kernel_rfl) (by as_aux_lemma => kernel_rfl) (by as_aux_lemma => kernel_rfl) (by as_aux_lemma => kernel_rfl) (by as_aux_lemma => kernel_rfl) (fun _ _ _ h => h) rfl ?_ hS ?_
              rotate_left
              · intro W' hW'
                obtain ⟨s0, s1, s2, s3⟩ := hW'
                all_goals (go_simp; first | done | rfl)
              intro l' hl
              dsimp only [List.set_cons_succ, List.set_cons_zero] at hl
              subst hl
              refine anyX_takeNL 3 (v := ?_) rfl rfl (by as_aux_lemma => kernel_rfl) (by as_aux_lemma => kernel_rfl) (by as_aux_lemma => kernel_rfl) (by as_aux_lemma => kernel_rfl) (by as_aux_lemma => kernel_rfl) (fun _ _ _ h => h) rfl ?_ hS ?_
              rotate_left
              · intro W' hW'
                obtain ⟨s0, s1, s2, s3⟩ := hW'
                all_goals (go_simp; first | done | rfl)
              intro l' hl
              dsimp only [List.set_cons_succ, List.set_cons_zero] at hl
              subst hl
              refine anyX_takeNL 4 (v := ?_) rfl rfl (by as_aux_lemma => kernel_rfl) (by as_aux_lemma => kernel_rfl) (by as_aux_lemma => kernel_rfl) (by as_aux_lemma => kernel_rfl) (by as_aux_lemma => kernel_rfl) (fun _ _ _ h => h) rfl ?_ hS ?_
              rotate_left
              · intro W' hW'
                obtain ⟨s0, s1, s2, s3⟩ := hW'
                all_goals (go_simp; first | done | rfl)
              intro l' hl
              dsimp only [List.set_cons_succ, List.set_cons_zero] at hl
              subst hl
              refine anyX_takeNL 5 (v := ?_) rfl rfl (by as_aux_lemma => kernel_rfl) (by as_aux_lemma => kernel_rfl) (by as_aux_lemma => kernel_rfl) (by as_aux_lemma => kernel_rfl) (by as_aux_lemma => kernel_rfl) (fun _ _ _ h => h) rfl ?_ hS ?_
              rotate_left
              · intro W' hW'
                obtain ⟨s0, s1, s2, s3⟩ := hW'
                all_goals (go_simp; first | done | rfl)
              intro l' hl
              dsimp only [List.set_cons_succ, List.set_cons_zero] at hl
              subst hl
              refine anyX_takeWL 6 (v := ?_) rfl rfl (by as_aux_lemma => kernel_rfl) (by as_aux_lemma => kernel_rfl) (by as_aux_lemma => kernel_rfl) (by as_aux_lemma => kernel_rfl) (by as_aux_lemma => kernel_rfl) (fun _ _ _ h => h) (by rfl) ?_ hS ?_
              rotate_left
              · intro W' hW'
                obtain ⟨s0, s1, s2, s3⟩ := hW'
                all_goals (go_simp; first | done | rfl)
              intro l' hl
              dsimp only [List.set_cons_succ, List.set_cons_zero] at hl
              subst hl
              refine anyX_takeWL 7 (v := ?_) rfl rfl (by as_aux_lemma => kernel_rfl) (by as_aux_lemma => kernel_rfl) (by as_aux_lemma => kernel_rfl) (by as_aux_lemma => kernel_rfl) (by as_aux_lemma => kernel_rfl) (fun _ _ _ h => h) (by rfl) ?_ hS ?_
              rotate_left
              · intro W' hW'
                obtain ⟨s0, s1, s2, s3⟩ := hW'
                all_goals (go_simp; first | done | rfl)
              intro l' hl
              dsimp only [List.set_cons_succ, List.set_cons_zero] at hl
              subst hl
              refine anyX_takeWL 8 (v := ?_) rfl rfl (by as_aux_lemma => kernel_rfl) (by as_aux_lemma => kernel_rfl) (by as_aux_lemma => kernel_rfl) (by as_aux_lemma => kernel_rfl) (by as_aux_lemma => kernel_rfl) (fun _ _ _ h => h) (by rfl) ?_ hS ?_
              rotate_left
              · intro W' hW'
                obtain ⟨s0, s1, s2, s3⟩ := hW'
                all_goals (go_simp; first | done | rfl)
              intro l' hl
              dsimp only [List.set_cons_succ, List.set_cons_zero] at hl
              subst hl
              refine anyX_takeNL 9 (v := ?_) rfl rfl (by as_aux_lemma => kernel_rfl) (by as_aux_lemma => kernel_rfl) (by as_aux_lemma => kernel_rfl) (by as_aux_lemma => kernel_rfl) (by as_aux_lemma => kernel_rfl) (fun _ _ _ h => h) rfl ?_ hS ?_
              rotate_left
              · intro W' hW'
                obtain ⟨s0, s1, s2, s3⟩ := hW'
                all_goals (go_simp; first | done | rfl)
              intro l' hl
              dsimp only [List.set_cons_succ, List.set_cons_zero] at hl
              subst hl
              refine anyX_takeNL 10 (v := ?_) rfl rfl (by as_aux_lemma => kernel_rfl) (by as_aux_lemma => kernel_rfl) (by as_aux_lemma => kernel_rfl) (by as_aux_lemma => kernel_rfl) (by as_aux_lemma => kernel_rfl) (fun _ _ _ h => h) rfl ?_ hS ?_
              rotate_left
              · intro W' hW'
                obtain ⟨s0, s1, s2, s3⟩ := hW'
                all_goals (go_simp; first | done | rfl)
              intro l' hl
              dsimp only [List.set_cons_succ, List.set_cons_zero] at hl
              subst hl
              refine anyX_takeWL 11 (v := ?_) rfl rfl (by as_aux_lemma => kernel_rfl) (by as_aux_lemma => kernel_rfl) (by as_aux_lemma => kernel_rfl) (by as_aux_lemma => kernel_rfl) (by as_aux_lemma => kernel_rfl) (fun _ _ _ h => h) (by rfl) ?_ hS ?_
              rotate_left
              · intro W' hW'
                obtain ⟨s0, s1, s2, s3⟩ := hW'
                all_goals (go_simp; first | done | rfl)
              intro l' hl
              dsimp only [List.set_cons_succ, List.set_cons_zero] at hl
              subst hl
              refine anyX_takeWL 12 (v := ?_) rfl rfl (by as_aux_lemma => kernel_rfl) (by as_aux_lemma => kernel_rfl) (by as_aux_lemma => kernel_rfl) (by as_aux_lemma => kernel_rfl) (by as_aux_lemma => kernel_rfl) (fun _ _ _ h => h) (by rfl) ?_ hS ?_
              rotate_left
              · intro W' hW'
                obtain ⟨s0, s1, s2, s3⟩ := hW'
                all_goals (go_simp; first | done | rfl)
              intro l' hl
              dsimp only [List.set_cons_succ, List.set_cons_zero] at hl
              subst hl
              refine anyX_takeWL 13 (v := ?_) rfl rfl (by as_aux_lemma => kernel_rfl) (by as_aux_lemma => kernel_rfl) (by as_aux_lemma => kernel_rfl) (by as_aux_lemma => kernel_rfl) (by as_aux_lemma => kernel_rfl) (fun _ _ _ h => h) (by rfl) ?_ hS ?_
              rotate_left
              · intro W' hW'
                obtain ⟨s0, s1, s2, s3⟩ := hW'
                all_goals (go_simp; first | done | rfl)
              intro l' hl
              dsimp only [List.set_cons_succ, List.set_cons_zero] at hl
              subst hl
              refine anyX_takeWL 14 (v := ?_) rfl rfl (by as_aux_lemma => kernel_rfl) (by as_aux_lemma => kernel_rfl) (by as_aux_lemma => kernel_rfl) (by as_aux_lemma => kernel_rfl) (by as_aux_lemma => kernel_rfl) (fun _ _ _ h => h) (by rfl) ?_ hS ?_
              rotate_left
              · intro W' hW'
                obtain ⟨s0, s1, s2, s3⟩ := hW'
                all_goals (go_simp; first | done | rfl)
              intro l' hl
              dsimp only [List.set_cons_succ, List.set_cons_zero] at hl
              subst hl
              refine anyX_takeWL 15 (v := ?_) rfl rfl (by as_aux_lemma => kernel_rfl) (by as_aux_lemma => kernel_rfl) (by as_aux_lemma => kernel_rfl) (by as_aux_lemma => kernel_rfl) (by as_aux_lemma => kernel_rfl) (fun _ _ _ h => h) (by rfl) ?_ hS ?_
              rotate_left
              · intro W' hW'
                obtain ⟨s0, s1, s2, s3⟩ := hW'
                all_goals (go_simp; first | done | rfl)
              intro l' hl
              dsimp only [List.set_cons_succ, List.set_cons_zero] at hl
              subst hl
              refine anyX_takeWL 16 (v := ?_) rfl rfl (by as_aux_lemma => kernel_rfl) (by as_aux_lemma => kernel_rfl) (by as_aux_lemma => kernel_rfl) (by as_aux_lemma => kernel_rfl) (by as_aux_lemma => kernel_rfl) (fun _ _ _ h => h) (by rfl) ?_ hS ?_
              rotate_left
              · intro W' hW'
                obtain ⟨s0, s1, s2, s3⟩ := hW'
                all_goals (go_simp; first | done | rfl)
              intro l' hl
              dsimp only [List.set_cons_succ, List.set_cons_zero] at hl
              subst hl
              refine anyX_takeWL 17 (v := ?_) rfl rfl (by as_aux_lemma => kernel_rfl) (by as_aux_lemma => kernel_rfl) (by as_aux_lemma => kernel_rfl) (by as_aux_lemma => kernel_rfl) (by as_aux_lemma => kernel_rfl) (fun _ _ _ h => h) (by rfl) ?_ hS ?_
              rotate_left
              · intro W' hW'
                obtain ⟨s0, s1, s2, s3⟩ := hW'
                all_goals (go_simp; first | done | rfl)
              intro l' hl
              dsimp only [List.set_cons_succ, List.set_cons_zero] at hl
              subst hl
              refine anyX_takeWL 18 (v := ?_) rfl rfl (by as_aux_lemma => kernel_rfl) (by as_aux_lemma => kernel_rfl) (by as_aux_lemma => kernel_rfl) (by as_aux_lemma => kernel_rfl) (by as_aux_lemma => kernel_rfl) (fun _ _ _ h => h) (by rfl) ?_ hS ?_
              rotate_left
              · intro W' hW'
                obtain ⟨s0, s1, s2, s3⟩ := hW'
                all_goals (go_simp; first | done | rfl)
              intro l' hl
              dsimp only [List.set_cons_succ, List.set_cons_zero] at hl
              subst hl
              refine anyX_takeWL 19 (v := ?_) rfl rfl (by as_aux_lemma => kernel_rfl) (by as_aux_lemma => kernel_rfl) (by as_aux_lemma => kernel_rfl) (by as_aux_lemma => kernel_rfl) (by as_aux_lemma => kernel_rfl) (fun _ _ _ h => h) (by rfl) ?_ hS ?_
              rotate_left
              · intro W' hW'
                obtain ⟨s0, s1, s2, s3⟩ := hW'
                all_goals (go_simp; first | done | rfl)
              intro l' hl
              dsimp only [List.set_cons_succ, List.set_cons_zero] at hl
              subst hl
              refine anyX_takeWL 20 (v := ?_) rfl rfl (by as_aux_lemma => kernel_rfl) (by as_aux_lemma => kernel_rfl) (by as_aux_lemma => kernel_rfl) (by as_aux_lemma => kernel_rfl) (by as_aux_lemma => kernel_rfl) (fun _ _ _ h => h) (by rfl) ?_ hS ?_
              rotate_left
              · intro W' hW'
                obtain ⟨s0, s1, s2, s3⟩ := hW'
                all_goals (go_simp; first | done | rfl)
              intro l' hl
              dsimp only [List.set_cons_succ, List.set_cons_zero] at hl
              subst hl
              refine anyX_oneW (i := 21) (by kernel_rfl) rfl (by rfl) fun K' hK' => ?_
              unfold Oper.wp
              go_simp
              refine (pair _ x hxr).mono ?_
              rintro e w54 ⟨rfl, bb⟩
              have bb : Below w53.heap.size w53 w54 := ⟨bb.os, bb.tape, bb.output, bb.size, bb.block⟩
              have nn := bb.nw ow53
              replace hs := hs.new_ nn
              replace hp := hp.new_ nn
              replace hw := hw.new_ nn
              replace hb := hb.new_ nn
              replace hr := hr.new_ nn
              replace ho := ho.new_ nn
              replace hz := hz.new_ nn
              replace t := t.trans (nn.turn [1])
              clear nn
              clear bb hS z0 z1 e0 b5
              have z0 := hz.get 0 rfl
              have z1 := hz.get 1 rfl
              simp only [Nat.zero_add] at z0 z1
              obtain ⟨-, -, -, hcell⟩ := hw.open_
              have e0 := hcell (0 * 1 + 0) _ (EInt.css_at xs 0 x hfirst 0 _ rfl (by omega))
              simp only [Nat.mul_one, Nat.add_zero, Nat.zero_mul] at e0
              have b5 := hb.get0
              clear hcell
              have hS : (fun W' : World => W'.cell? ⟨gz, 0, none⟩ = some (.int .i64 x) ∧ W'.cell? ⟨gz, 1, none⟩ = some (.string (tx x)) ∧ W'.cell? ⟨g9, off9, none⟩ = some (.int .i64 x) ∧ W'.cell? ⟨g5, 0, none⟩ = some (.slice (some ⟨g9, off9, none⟩) xs.length c5)) w54 := ⟨z0, z1, e0, b5⟩
              refine hK' _ _ (fun _ => hS) ?_
              clear hK' K'
              refine anyX_takeWL 22 (v := ?_) rfl rfl (by as_aux_lemma => kernel_rfl) (by as_aux_lemma => kernel_rfl) (by as_aux_lemma => kernel_rfl) (by as_aux_lemma => kernel_rfl) (by as_aux_lemma => kernel_rfl) (fun _ _ _ h => h) (by rfl) ?_ hS ?_
              rotate_left
              · intro W' hW'
                obtain ⟨s0, s1, s2, s3⟩ := hW'
                all_goals (go_simp; first | done | rfl)
              intro l' hl
              dsimp only [List.set_cons_succ, List.set_cons_zero] at hl
              subst hl
              refine anyX_takeWL 23 (v := ?_) rfl rfl (by as_aux_lemma => kernel_rfl) (by as_aux_lemma => kernel_rfl) (by as_aux_lemma => kernel_rfl) (by as_aux_lemma => kernel_rfl) (by as_aux_lemma => kernel_rfl) (fun _ _ _ h => h) (by rfl) ?_ hS ?_
              rotate_left
              · intro W' hW'
                obtain ⟨s0, s1, s2, s3⟩ := hW'
                all_goals (go_simp; first | done | rfl)
              intro l' hl
              dsimp only [List.set_cons_succ, List.set_cons_zero] at hl
              subst hl
              refine anyX_takeWL 24 (v := ?_) rfl rfl (by as_aux_lemma => kernel_rfl) (by as_aux_lemma => kernel_rfl) (by as_aux_lemma => kernel_rfl) (by as_aux_lemma => kernel_rfl) (by as_aux_lemma => kernel_rfl) (fun _ _ _ h => h) (by rfl) ?_ hS ?_
              rotate_left
              · intro W' hW'
                obtain ⟨s0, s1, s2, s3⟩ := hW'
                all_goals (go_simp; first | done | rfl)
              intro l' hl
              dsimp only [List.set_cons_succ, List.set_cons_zero] at hl
              subst hl
              refine anyX_takeNL 25 (v := ?_) rfl rfl (by as_aux_lemma => kernel_rfl) (by as_aux_lemma => kernel_rfl) (by as_aux_lemma => kernel_rfl) (by as_aux_lemma => kernel_rfl) (by as_aux_lemma => kernel_rfl) (fun _ _ _ h => h) rfl ?_ hS ?_
              rotate_left
              · intro W' hW'
                obtain ⟨s0, s1, s2, s3⟩ := hW'
                all_goals (go_simp; first | done | rfl)
              intro l' hl
              dsimp only [List.set_cons_succ, List.set_cons_zero] at hl
              subst hl
              refine anyX_takeNL 26 (v := ?_) rfl rfl (by as_aux_lemma => kernel_rfl) (by as_aux_lemma => kernel_rfl) (by as_aux_lemma => kernel_rfl) (by as_aux_lemma => kernel_rfl) (by as_aux_lemma => kernel_rfl) (fun _ _ _ h => h) rfl ?_ hS ?_
              rotate_left
              · intro W' hW'
                obtain ⟨s0, s1, s2, s3⟩ := hW'
                all_goals (go_simp; first | done | rfl)
              intro l' hl
              dsimp only [List.set_cons_succ, List.set_cons_zero] at hl
              subst hl
              refine anyX_takeWL 27 (v := ?_) rfl rfl (by as_aux_lemma => kernel_rfl) (by as_aux_lemma => kernel_rfl) (by as_aux_lemma => kernel_rfl) (by as_aux_lemma => kernel_rfl) (by as_aux_lemma => kernel_rfl) (fun _ _ _ h => h) (by rfl) ?_ hS ?_
              rotate_left
              · intro W' hW'
                obtain ⟨s0, s1, s2, s3⟩ := hW'
                all_goals (go_simp; first | done | rfl)
              intro l' hl
              dsimp only [List.set_cons_succ, List.set_cons_zero] at hl
              subst hl
              refine anyX_takeWL 28 (v := ?_) rfl rfl (by as_aux_lemma => kernel_rfl) (by as_aux_lemma => kernel_rfl) (by as_aux_lemma => kernel_rfl) (by as_aux_lemma => kernel_rfl) (by as_aux_lemma => kernel_rfl) (fun _ _ _ h => h) (by rfl) ?_ hS ?_
              rotate_left
              · intro W' hW'
                obtain ⟨s0, s1, s2, s3⟩ := hW'
                all_goals (go_simp; first | done | rfl)
              intro l' hl
              dsimp only [List.set_cons_succ, List.set_cons_zero] at hl
              subst hl
              refine anyX_takeWL 29 (v := ?_) rfl rfl (by as_aux_lemma => kernel_rfl) (by as_aux_lemma => kernel_rfl) (by as_aux_lemma => kernel_rfl) (by as_aux_lemma => kernel_rfl) (by as_aux_lemma => kernel_rfl) (fun _ _ _ h => h) (by rfl) ?_ hS ?_
              rotate_left
              · intro W' hW'
                obtain ⟨s0, s1, s2, s3⟩ := hW'
                all_goals (go_simp; first | done | rfl)
              intro l' hl
              dsimp only [List.set_cons_succ, List.set_cons_zero] at hl
              subst hl
              refine anyX_takeUL 30 rfl rfl (by as_aux_lemma => kernel_rfl) (by as_aux_lemma => kernel_rfl) (by as_aux_lemma => kernel_rfl) (by as_aux_lemma => kernel_rfl) (by as_aux_lemma => kernel_rfl) (fun _ _ _ h => h) (by rfl) hS ?_
              intro l' hl
              dsimp only [List.set_cons_succ, List.set_cons_zero] at hl
              subst hl
              refine anyX_takeUL 31 rfl rfl (by as_aux_lemma => kernel_rfl) (by as_aux_lemma => kernel_rfl) (by as_aux_lemma => kernel_rfl) (by as_aux_lemma => kernel_rfl) (by as_aux_lemma => kernel_rfl) (fun _ _ _ h => h) (by rfl) hS ?_
              intro l' hl
              dsimp only [List.set_cons_succ, List.set_cons_zero] at hl
              subst hl
              refine anyX_takeUL 32 rfl rfl (by as_aux_lemma => kernel_rfl) (by as_aux_lemma => kernel_rfl) (by as_aux_lemma => kernel_rfl) (by as_aux_lemma => kernel_rfl) (by as_aux_lemma => kernel_rfl) (fun _ _ _ h => h) (by rfl) hS ?_
              intro l' hl
              dsimp only [List.set_cons_succ, List.set_cons_zero] at hl
              subst hl
              refine anyX_takeUL 33 rfl rfl (by as_aux_lemma => kernel_rfl) (by as_aux_lemma => kernel_rfl) (by as_aux_lemma => kernel_rfl) (by as_aux_lemma => kernel_rfl) (by as_aux_lemma => kernel_rfl) (fun _ _ _ h => h) (by rfl) hS ?_
              intro l' hl
              dsimp only [List.set_cons_succ, List.set_cons_zero] at hl
              subst hl
              refine anyX_takeUL 34 rfl rfl (by as_aux_lemma => kernel_rfl) (by as_aux_lemma => kernel_rfl) (by as_aux_lemma => kernel_rfl) (by as_aux_lemma => kernel_rfl) (by as_aux_lemma => kernel_rfl) (fun _ _ _ h => h) (by rfl) hS ?_
              intro l' hl
              dsimp only [List.set_cons_succ, List.set_cons_zero] at hl
              subst hl
              refine anyX_takeUL 35 rfl rfl (by as_aux_lemma => kernel_rfl) (by as_aux_lemma => kernel_rfl) (by as_aux_lemma => kernel_rfl) (by as_aux_lemma => kernel_rfl) (by as_aux_lemma => kernel_rfl) (fun _ _ _ h => h) (by rfl) hS ?_
              intro l' hl
              dsimp only [List.set_cons_succ, List.set_cons_zero] at hl
              subst hl
              refine anyX_takeUL 36 rfl rfl (by as_aux_lemma => kernel_rfl) (by as_aux_lemma => kernel_rfl) (by as_aux_lemma => kernel_rfl) (by as_aux_lemma => kernel_rfl) (by as_aux_lemma => kernel_rfl) (fun _ _ _ h => h) (by rfl) hS ?_
              intro l' hl
              dsimp only [List.set_cons_succ, List.set_cons_zero] at hl
              subst hl
              refine anyX_takeWL 37 (v := ?_) rfl rfl (by as_aux_lemma => kernel_rfl) (by as_aux_lemma => kernel_rfl) (by as_aux_lemma => kernel_rfl) (by as_aux_lemma => kernel_rfl) (by as_aux_lemma => kernel_rfl) (fun _ _ _ h => h) (by rfl) ?_ hS ?_
              rotate_left
              · intro W' hW'
                obtain ⟨s0, s1, s2, s3⟩ := hW'
                all_goals (go_simp; first | done | rfl)
              intro l' hl
              dsimp only [List.set_cons_succ, List.set_cons_zero] at hl
              subst hl
              refine anyX_takeNL 38 (v := ?_) rfl rfl (by as_aux_lemma => kernel_rfl) (by as_aux_lemma => kernel_rfl) (by as_aux_lemma => kernel_rfl) (by as_aux_lemma => kernel_rfl) (by as_aux_lemma => kernel_rfl) (fun _ _ _ h => h) rfl ?_ hS ?_
              rotate_left
              · intro W' hW'
                obtain ⟨s0, s1, s2, s3⟩ := hW'
                all_goals (go_simp; first | done | rfl)
              intro l' hl
              dsimp only [List.set_cons_succ, List.set_cons_zero] at hl
              subst hl
              refine anyX_done (by kernel_rfl) ?_ _
              refine NoPanic.normal ?_
              clear hS z0 z1 e0
              have f5 := hb.free 0
              have l5 := hb.lt
              obtain ⟨A', hA, hrd⟩ := hw.readsFrom_ 1 (by omega)
              have hk1 : (1 : Int) ≤ (xs.length : Int) := by omega
              go_wp2_with (at_builtin; refine wpList_append_row rfl (.tmp 96) (.tmp 98) 22 22 rfl 3 _ 1 8 Try.underlying22 EInt.info rfl rfl (Row.new0 w54 ow53 [1, 4] 3 1) rfl ((hrd.new_ ((Below.refl _ _).alloc (Nat.le_refl _) _)).src Try.underlying22 (by rw [List.length_drop, EInt.css_length]; omega) (fun u hu => EInt.css_one xs u (List.mem_of_mem_drop hu))) (by unfold maxLen; omega) (by omega) ?_)
              intro v' w60 ow60 hrow' ht'
              have e1 : xs.length - 1 = zs.length := by have := Hlx.out; omega
              have e2 : (EInt.css xs).tail = EInt.css zs := by rw [Hxs.out]; rfl
              have e3 : zs.length ≤ k + 1 := by omega
              try simp only [Nat.zero_add, List.nil_append, List.drop_one, Nat.mul_one] at hrow'
              rw [e1, e2] at hrow'
              obtain ⟨A60, c60, rfl, hnc60⟩ := hrow'.slice
              have tt := ((Turn.refl [1, 4] w54 ow53).alloc (.cells #[] 3) [1, 4]).trans ht'
              replace hs := hs.keep tt (by simp) (by simp)
              replace hp := hp.keep tt (by simp) (by simp)
              replace hb := hb.keep tt (by simp)
              replace hr := hr.keep tt (by simp)
              replace ho := ho.keep tt (by simp)
              replace hz := hz.keep tt (by simp)
              replace t := t.trans (tt.up (by simp))
              clear hw tt ht' b5 f5 l5 hrd hA e1 e2
              have b5 := hb.get0
              have f5 := hb.free 0
              have l5 := hb.lt
              go_wp2_with fail
              have tt := hb.turn 0 (.slice A60 zs.length c60) (by simp)
              have hb' := hb.set0 (.slice A60 zs.length c60)
              go_meet
              exact ⟨ow60, zs, .slice A60 zs.length c60, e3, Hzr.out, hs.keep tt (by simp) (by simp), hp.keep tt (by simp) (by simp), hrow'.keep tt (by simp), hb', hr.keep tt (by simp), ho.keep tt (by simp), t.trans (tt.up (by simp))⟩
          · have b1 : (o.kind == 1) = false := beq_eq_false_iff_ne.2 k1
            clear k1
            go_wp2_with fail
            go_meet
            exact ⟨ow3, xs, _, hxl, Hxr.out, hs, hp, hw, hb, hr, ho, t⟩
        case rest =>
          clear hs hp hw hb hr ho t Hxr hxl o0 o2
          obtain ⟨ow4, xs, v6, hxl, hxr, hs, hp, hw, hb, hr, ho, t⟩ := hcut
          have Hxr := Lib.hid hxr
          clear hxr
          obtain ⟨w4, rfl⟩ : ∃ w4 : World, w4 = wc := ⟨_, rfl⟩
          obtain ⟨A6, c6, rfl, hnc⟩ := hw.slice
          clear ho
          rcases hxs : xs with _ | ⟨x, zs⟩
          · subst hxs
            go_wp2_with fail
            refine (EInt.q_front_none w4 ow4 [1, 0, 0] g3 0 hs).mono ?_
            rintro e w61 ⟨rfl, bb⟩
            have nn := bb.nw ow4
            replace hs := hs.new_ nn
            replace hp := hp.new_ nn
            replace hw := hw.new_ nn
            replace hb := hb.new_ nn
            replace hr := hr.new_ nn
            replace t := t.trans (nn.turn [1])
            clear nn
            clear bb
            go_wp2_with fail
            have b5 := hb.get0
            refine plain_regionN (fun W' : World => W'.cell? ⟨g5, 0, none⟩ = some (.slice A6 0 c6)) [] (by kernel_rfl) ?_
            have hS : (fun W' : World => W'.cell? ⟨g5, 0, none⟩ = some (.slice A6 0 c6)) w61.drew := b5
            refine anyX_takeNL 1 (v := ?_) rfl rfl (by as_aux_lemma => kernel_rfl) (by as_aux_lemma => kernel_rfl) (by as_aux_lemma => kernel_rfl) (by as_aux_lemma => kernel_rfl) (by as_aux_lemma => kernel_rfl) (fun _ _ _ h => h) rfl ?_ hS ?_
            rotate_left
            · intro W' hW'
              obtain hW' := hW'
              all_goals (go_simp; first | done | rfl)
            intro l' hl
            dsimp only [List.set_cons_succ, List.set_cons_zero] at hl
            subst hl
            refine anyX_takeNL 2 (v := ?_) rfl rfl (by as_aux_lemma => kernel_rfl) (by as_aux_lemma => kernel_rfl) (by as_aux_lemma => kernel_rfl) (by as_aux_lemma => kernel_rfl) (by as_aux_lemma => kernel_rfl) (fun _ _ _ h => h) rfl ?_ hS ?_
            rotate_left
            · intro W' hW'
              obtain hW' := hW'
              all_goals (go_simp; first | done | rfl)
            intro l' hl
            dsimp only [List.set_cons_succ, List.set_cons_zero] at hl
            subst hl
            refine anyX_one (i := 0) (by kernel_rfl) rfl rfl fun K' hK' => ?_
            unfold Oper.wp
            go_simp
            refine (EInt.q_len _ ow4 [1, 0, 0] g3 0 ([] : List Int) (hs.new_ (New.refl _ _).drew) (by omega)).mono ?_
            rintro e w62 ⟨rfl, kk, hw'⟩
            have nn : New w61 ow4 w62 ow4 := by rw [hw']; exact ((New.refl _ _).drew).drewN kk
            clear hw'
            replace hs := hs.new_ nn
            replace hp := hp.new_ nn
            replace hw := hw.new_ nn
            replace hb := hb.new_ nn
            replace hr := hr.new_ nn
            replace t := t.trans (nn.turn [1])
            clear nn
            clear hS b5
            have b5 := hb.get0
            have hS : (fun W' : World => W'.cell? ⟨g5, 0, none⟩ = some (.slice A6 0 c6)) w62 := b5
            refine hK' _ _ (fun _ => hS) ?_
            clear hK' K'
            refine anyX_takeNL 3 (v := ?_) rfl rfl (by as_aux_lemma => kernel_rfl) (by as_aux_lemma => kernel_rfl) (by as_aux_lemma => kernel_rfl) (by as_aux_lemma => kernel_rfl) (by as_aux_lemma => kernel_rfl) (fun _ _ _ h => h) rfl ?_ hS ?_
            rotate_left
            · intro W' hW'
              obtain hW' := hW'
              all_goals (go_simp; first | done | rfl)
            intro l' hl
            dsimp only [List.set_cons_succ, List.set_cons_zero] at hl
            subst hl
            refine anyX_takeNL 4 (v := ?_) rfl rfl (by as_aux_lemma => kernel_rfl) (by as_aux_lemma => kernel_rfl) (by as_aux_lemma => kernel_rfl) (by as_aux_lemma => kernel_rfl) (by as_aux_lemma => kernel_rfl) (fun _ _ _ h => h) rfl ?_ hS ?_
            rotate_left
            · intro W' hW'
              obtain hW' := hW'
              all_goals (go_simp; first | done | rfl)
            intro l' hl
            dsimp only [List.set_cons_succ, List.set_cons_zero] at hl
            subst hl
            refine anyX_takeWL 6 (v := ?_) rfl rfl (by as_aux_lemma => kernel_rfl) (by as_aux_lemma => kernel_rfl) (by as_aux_lemma => kernel_rfl) (by as_aux_lemma => kernel_rfl) (by as_aux_lemma => kernel_rfl) (fun _ _ _ h => h) (by rfl) ?_ hS ?_
            rotate_left
            · intro W' hW'
              obtain hW' := hW'
              all_goals (go_simp; first | done | rfl)
            intro l' hl
            dsimp only [List.set_cons_succ, List.set_cons_zero] at hl
            subst hl
            refine anyX_takeWL 7 (v := ?_) rfl rfl (by as_aux_lemma => kernel_rfl) (by as_aux_lemma => kernel_rfl) (by as_aux_lemma => kernel_rfl) (by as_aux_lemma => kernel_rfl) (by as_aux_lemma => kernel_rfl) (fun _ _ _ h => h) (by rfl) ?_ hS ?_
            rotate_left
            · intro W' hW'
              obtain hW' := hW'
              all_goals (go_simp; first | done | rfl)
            intro l' hl
            dsimp only [List.set_cons_succ, List.set_cons_zero] at hl
            subst hl
            refine anyX_oneW (i := 5) (by kernel_rfl) rfl (by rfl) fun K' hK' => ?_
            unfold Oper.wp
            go_simp
            have hlen2 := EPr.q_len w62 ow4 [1, 0, 1] g4 0 _ hp (by rw [List.length_map]; omega)
            rw [List.length_map] at hlen2
            refine (hlen2).mono ?_
            rintro e w63 ⟨rfl, kk, hw'⟩
            have nn : New w62 ow4 w63 ow4 := by rw [hw']; exact (New.refl _ _).drewN kk
            clear hw'
            replace hs := hs.new_ nn
            replace hp := hp.new_ nn
            replace hw := hw.new_ nn
            replace hb := hb.new_ nn
            replace hr := hr.new_ nn
            replace t := t.trans (nn.turn [1])
            clear nn
            clear hS b5 hlen2
            have b5 := hb.get0
            have hS : (fun W' : World => W'.cell? ⟨g5, 0, none⟩ = some (.slice A6 0 c6)) w63 := b5
            refine hK' _ _ (fun _ => hS) ?_
            clear hK' K'
            refine anyX_takeWL 8 (v := ?_) rfl rfl (by as_aux_lemma => kernel_rfl) (by as_aux_lemma => kernel_rfl) (by as_aux_lemma => kernel_rfl) (by as_aux_lemma => kernel_rfl) (by as_aux_lemma => kernel_rfl) (fun _ _ _ h => h) (by rfl) ?_ hS ?_
            rotate_left
            · intro W' hW'
              obtain hW' := hW'
              all_goals (go_simp; first | done | rfl)
            intro l' hl
            dsimp only [List.set_cons_succ, List.set_cons_zero] at hl
            subst hl
            refine anyX_takeNL 9 (v := ?_) rfl rfl (by as_aux_lemma => kernel_rfl) (by as_aux_lemma => kernel_rfl) (by as_aux_lemma => kernel_rfl) (by as_aux_lemma => kernel_rfl) (by as_aux_lemma => kernel_rfl) (fun _ _ _ h => h) rfl ?_ hS ?_
            rotate_left
            · intro W' hW'
              obtain hW' := hW'
              all_goals (go_simp; first | done | rfl)
            intro l' hl
            dsimp only [List.set_cons_succ, List.set_cons_zero] at hl
            subst hl
            refine anyX_takeNL 10 (v := ?_) rfl rfl (by as_aux_lemma => kernel_rfl) (by as_aux_lemma => kernel_rfl) (by as_aux_lemma => kernel_rfl) (by as_aux_lemma => kernel_rfl) (by as_aux_lemma => kernel_rfl) (fun _ _ _ h => h) rfl ?_ hS ?_
            rotate_left
            · intro W' hW'
              obtain hW' := hW'
              all_goals (go_simp; first | done | rfl)
            intro l' hl
            dsimp only [List.set_cons_succ, List.set_cons_zero] at hl
            subst hl
            refine anyX_takeWL 11 (v := ?_) rfl rfl (by as_aux_lemma => kernel_rfl) (by as_aux_lemma => kernel_rfl) (by as_aux_lemma => kernel_rfl) (by as_aux_lemma => kernel_rfl) (by as_aux_lemma => kernel_rfl) (fun _ _ _ h => h) (by rfl) ?_ hS ?_
            rotate_left
            · intro W' hW'
              obtain hW' := hW'
              all_goals (go_simp; first | done | rfl)
            intro l' hl
            dsimp only [List.set_cons_succ, List.set_cons_zero] at hl
            subst hl
            refine anyX_takeWL 12 (v := ?_) rfl rfl (by as_aux_lemma => kernel_rfl) (by as_aux_lemma => kernel_rfl) (by as_aux_lemma => kernel_rfl) (by as_aux_lemma => kernel_rfl) (by as_aux_lemma => kernel_rfl) (fun _ _ _ h => h) (by rfl) ?_ hS ?_
            rotate_left
            · intro W' hW'
              obtain hW' := hW'
              all_goals (go_simp; first | done | rfl)
            intro l' hl
            dsimp only [List.set_cons_succ, List.set_cons_zero] at hl
            subst hl
            refine anyX_takeWL 13 (v := ?_) rfl rfl (by as_aux_lemma => kernel_rfl) (by as_aux_lemma => kernel_rfl) (by as_aux_lemma => kernel_rfl) (by as_aux_lemma => kernel_rfl) (by as_aux_lemma => kernel_rfl) (fun _ _ _ h => h) (by rfl) ?_ hS ?_
            rotate_left
            · intro W' hW'
              obtain hW' := hW'
              all_goals (go_simp; first | done | rfl)
            intro l' hl
            dsimp only [List.set_cons_succ, List.set_cons_zero] at hl
            subst hl
            refine anyX_takeWL 14 (v := ?_) rfl rfl (by as_aux_lemma => kernel_rfl) (by as_aux_lemma => kernel_rfl) (by as_aux_lemma => kernel_rfl) (by as_aux_lemma => kernel_rfl) (by as_aux_lemma => kernel_rfl) (fun _ _ _ h => h) (by rfl) ?_ hS ?_
            rotate_left
            · intro W' hW'
              obtain hW' := hW'
              all_goals (go_simp; first | done | rfl)
            intro l' hl
            dsimp only [List.set_cons_succ, List.set_cons_zero] at hl
            subst hl
            refine anyX_takeWL 15 (v := ?_) rfl rfl (by as_aux_lemma => kernel_rfl) (by as_aux_lemma => kernel_rfl) (by as_aux_lemma => kernel_rfl) (by as_aux_lemma => kernel_rfl) (by as_aux_lemma => kernel_rfl) (fun _ _ _ h => h) (by rfl) ?_ hS ?_
            rotate_left
            · intro W' hW'
              obtain hW' := hW'
              all_goals (go_simp; first | done | rfl)
            intro l' hl
            dsimp only [List.set_cons_succ, List.set_cons_zero] at hl
            subst hl
            refine anyX_takeNL 16 (v := ?_) rfl rfl (by as_aux_lemma => kernel_rfl) (by as_aux_lemma => kernel_rfl) (by as_aux_lemma => kernel_rfl) (by as_aux_lemma => kernel_rfl) (by as_aux_lemma => kernel_rfl) (fun _ _ _ h => h) rfl ?_ hS ?_
            rotate_left
            · intro W' hW'
              obtain hW' := hW'
              all_goals (go_simp; first | done | rfl)
            intro l' hl
            dsimp only [List.set_cons_succ, List.set_cons_zero] at hl
            subst hl
            refine anyX_takeNL 17 (v := ?_) rfl rfl (by as_aux_lemma => kernel_rfl) (by as_aux_lemma => kernel_rfl) (by as_aux_lemma => kernel_rfl) (by as_aux_lemma => kernel_rfl) (by as_aux_lemma => kernel_rfl) (fun _ _ _ h => h) rfl ?_ hS ?_
            rotate_left
            · intro W' hW'
              obtain hW' := hW'
              all_goals (go_simp; first | done | rfl)
            intro l' hl
            dsimp only [List.set_cons_succ, List.set_cons_zero] at hl
            subst hl
            refine anyX_takeWL 18 (v := ?_) rfl rfl (by as_aux_lemma => kernel_rfl) (by as_aux_lemma => kernel_rfl) (by as_aux_lemma => kernel_rfl) (by as_aux_lemma => kernel_rfl) (by as_aux_lemma => kernel_rfl) (fun _ _ _ h => h) (by rfl) ?_ hS ?_
            rotate_left
            · intro W' hW'
              obtain hW' := hW'
              all_goals (go_simp; first | done | rfl)
            intro l' hl
            dsimp only [List.set_cons_succ, List.set_cons_zero] at hl
            subst hl
            refine anyX_takeWL 19 (v := ?_) rfl rfl (by as_aux_lemma => kernel_rfl) (by as_aux_lemma => kernel_rfl) (by as_aux_lemma => kernel_rfl) (by as_aux_lemma => kernel_rfl) (by as_aux_lemma => kernel_rfl) (fun _ _ _ h => h) (by rfl) ?_ hS ?_
            rotate_left
            · intro W' hW'
              obtain hW' := hW'
              all_goals (go_simp; first | done | rfl)
            intro l' hl
            dsimp only [List.set_cons_succ, List.set_cons_zero] at hl
            subst hl
            refine anyX_takeUL 20 rfl rfl (by as_aux_lemma => kernel_rfl) (by as_aux_lemma => kernel_rfl) (by as_aux_lemma => kernel_rfl) (by as_aux_lemma => kernel_rfl) (by as_aux_lemma => kernel_rfl) (fun _ _ _ h => h) (by rfl) hS ?_
            intro l' hl
            dsimp only [List.set_cons_succ, List.set_cons_zero] at hl
            subst hl
            refine anyX_takeUL 21 rfl rfl (by as_aux_lemma => kernel_rfl) (by as_aux_lemma => kernel_rfl) (by as_aux_lemma => kernel_rfl) (by as_aux_lemma => kernel_rfl) (by as_aux_lemma => kernel_rfl) (fun _ _ _ h => h) (by rfl) hS ?_
            intro l' hl
            dsimp only [List.set_cons_succ, List.set_cons_zero] at hl
            subst hl
            refine anyX_takeUL 22 rfl rfl (by as_aux_lemma => kernel_rfl) (by as_aux_lemma => kernel_rfl) (by as_aux_lemma => kernel_rfl) (by as_aux_lemma => kernel_rfl) (by as_aux_lemma => kernel_rfl) (fun _ _ _ h => h) (by rfl) hS ?_
            intro l' hl
            dsimp only [List.set_cons_succ, List.set_cons_zero] at hl
            subst hl
            refine anyX_takeUL 23 rfl rfl (by as_aux_lemma => kernel_rfl) (by as_aux_lemma => kernel_rfl) (by as_aux_lemma => kernel_rfl) (by as_aux_lemma => kernel_rfl) (by as_aux_lemma => kernel_rfl) (fun _ _ _ h => h) (by rfl) hS ?_
            intro l' hl
            dsimp only [List.set_cons_succ, List.set_cons_zero] at hl
            subst hl
            refine anyX_takeUL 24 rfl rfl (by as_aux_lemma => kernel_rfl) (by as_aux_lemma => kernel_rfl) (by as_aux_lemma => kernel_rfl) (by as_aux_lemma => kernel_rfl) (by as_aux_lemma => kernel_rfl) (fun _ _ _ h => h) (by rfl) hS ?_
            intro l' hl
            dsimp only [List.set_cons_succ, List.set_cons_zero] at hl
            subst hl
            refine anyX_takeWL 25 (v := ?_) rfl rfl (by as_aux_lemma => kernel_rfl) (by as_aux_lemma => kernel_rfl) (by as_aux_lemma => kernel_rfl) (by as_aux_lemma => kernel_rfl) (by as_aux_lemma => kernel_rfl) (fun _ _ _ h => h) (by rfl) ?_ hS ?_
            rotate_left
            · intro W' hW'
              obtain hW' := hW'
              all_goals (go_simp; first | done | rfl)
            intro l' hl
            dsimp only [List.set_cons_succ, List.set_cons_zero] at hl
            subst hl
            refine anyX_takeNL 26 (v := ?_) rfl rfl (by as_aux_lemma => kernel_rfl) (by as_aux_lemma => kernel_rfl) (by as_aux_lemma => kernel_rfl) (by as_aux_lemma => kernel_rfl) (by as_aux_lemma => kernel_rfl) (fun _ _ _ h => h) rfl ?_ hS ?_
            rotate_left
            · intro W' hW'
              obtain hW' := hW'
              all_goals (go_simp; first | done | rfl)
            intro l' hl
            dsimp only [List.set_cons_succ, List.set_cons_zero] at hl
            subst hl
            refine anyX_takeNL 27 (v := ?_) rfl rfl (by as_aux_lemma => kernel_rfl) (by as_aux_lemma => kernel_rfl) (by as_aux_lemma => kernel_rfl) (by as_aux_lemma => kernel_rfl) (by as_aux_lemma => kernel_rfl) (fun _ _ _ h => h) rfl ?_ hS ?_
            rotate_left
            · intro W' hW'
              obtain hW' := hW'
              all_goals (go_simp; first | done | rfl)
            intro l' hl
            dsimp only [List.set_cons_succ, List.set_cons_zero] at hl
            subst hl
            refine anyX_takeWL 28 (v := ?_) rfl rfl (by as_aux_lemma => kernel_rfl) (by as_aux_lemma => kernel_rfl) (by as_aux_lemma => kernel_rfl) (by as_aux_lemma => kernel_rfl) (by as_aux_lemma => kernel_rfl) (fun _ _ _ h => h) (by rfl) ?_ hS ?_
            rotate_left
            · intro W' hW'
              obtain hW' := hW'
              all_goals (go_simp; first | done | rfl)
            intro l' hl
            dsimp only [List.set_cons_succ, List.set_cons_zero] at hl
            subst hl
            refine anyX_takeWL 29 (v := ?_) rfl rfl (by as_aux_lemma => kernel_rfl) (by as_aux_lemma => kernel_rfl) (by as_aux_lemma => kernel_rfl) (by as_aux_lemma => kernel_rfl) (by as_aux_lemma => kernel_rfl) (fun _ _ _ h => h) (by rfl) ?_ hS ?_
            rotate_left
            · intro W' hW'
              obtain hW' := hW'
              all_goals (go_simp; first | done | rfl)
            intro l' hl
            dsimp only [List.set_cons_succ, List.set_cons_zero] at hl
            subst hl
            refine anyX_takeWL 30 (v := ?_) rfl rfl (by as_aux_lemma => kernel_rfl) (by as_aux_lemma => kernel_rfl) (by as_aux_lemma => kernel_rfl) (by as_aux_lemma => kernel_rfl) (by as_aux_lemma => kernel_rfl) (fun _ _ _ h => h) (by rfl) ?_ hS ?_
            rotate_left
            · intro W' hW'
              obtain hW' := hW'
              all_goals (go_simp; first | done | rfl)
            intro l' hl
            dsimp only [List.set_cons_succ, List.set_cons_zero] at hl
            subst hl
            refine anyX_takeWL 31 (v := ?_) rfl rfl (by as_aux_lemma => kernel_rfl) (by as_aux_lemma => kernel_rfl) (by as_aux_lemma => kernel_rfl) (by as_aux_lemma => kernel_rfl) (by as_aux_lemma => kernel_rfl) (fun _ _ _ h => h) (by rfl) ?_ hS ?_
            rotate_left
            · intro W' hW'
              obtain hW' := hW'
              all_goals (go_simp; first | done | rfl)
            intro l' hl
            dsimp only [List.set_cons_succ, List.set_cons_zero] at hl
            subst hl
            refine anyX_takeWL 32 (v := ?_) rfl rfl (by as_aux_lemma => kernel_rfl) (by as_aux_lemma => kernel_rfl) (by as_aux_lemma => kernel_rfl) (by as_aux_lemma => kernel_rfl) (by as_aux_lemma => kernel_rfl) (fun _ _ _ h => h) (by rfl) ?_ hS ?_
            rotate_left
            · intro W' hW'
              obtain hW' := hW'
              all_goals (go_simp; first | done | rfl)
            intro l' hl
            dsimp only [List.set_cons_succ, List.set_cons_zero] at hl
            subst hl
            refine anyX_takeWL 33 (v := ?_) rfl rfl (by as_aux_lemma => kernel_rfl) (by as_aux_lemma => kernel_rfl) (by as_aux_lemma => kernel_rfl) (by as_aux_lemma => kernel_rfl) (by as_aux_lemma => kernel_rfl) (fun _ _ _ h => h) (by rfl) ?_ hS ?_
            rotate_left
            · intro W' hW'
              obtain hW' := hW'
              all_goals (go_simp; first | done | rfl)
            intro l' hl
            dsimp only [List.set_cons_succ, List.set_cons_zero] at hl
            subst hl
            refine anyX_takeNL 34 (v := ?_) rfl rfl (by as_aux_lemma => kernel_rfl) (by as_aux_lemma => kernel_rfl) (by as_aux_lemma => kernel_rfl) (by as_aux_lemma => kernel_rfl) (by as_aux_lemma => kernel_rfl) (fun _ _ _ h => h) rfl ?_ hS ?_
            rotate_left
            · intro W' hW'
              obtain hW' := hW'
              all_goals (go_simp; first | done | rfl)
            intro l' hl
            dsimp only [List.set_cons_succ, List.set_cons_zero] at hl
            subst hl
            refine anyX_done (by kernel_rfl) ?_ _
            refine NoPanic.normal ?_
            clear hS b5
            go_wp2_with fail
            go_roundg (ys.length - (k + 1))
            case measure => have := Hgk.out; omega
            case rel => exact ⟨k + 1, ow4, ([] : List Int), _, rfl, by omega, by go_num, hxl, Hxr.out, hs, hp, hw, hb, hr, t⟩
          · have hlx : xs.length = zs.length + 1 := by rw [hxs, List.length_cons]
            have hfirst : xs[0]? = some x := by rw [hxs]; rfl
            have hzr : ∀ y ∈ zs, EInt.Rng y := fun y hy => Hxr.out y (by rw [hxs]; exact List.mem_cons_of_mem _ hy)
            have hxr : EInt.Rng x := Hxr.out x (by rw [hxs]; exact List.mem_cons_self)
            obtain ⟨g9, off9, cap5, hv, hcc, hmx, -⟩ := hw.at (by omega)
            simp only [Value.slice.injEq] at hv
            obtain ⟨rfl, -, rfl⟩ := hv
            have i1 : (0 : Int) < (xs.length : Int) := by omega
            have i6 : decide (0 < xs.length) = true := decide_eq_true (by omega)
            have i7 : 0 < xs.length := by omega
            have Hlx := Lib.hid hlx
            have Hxs := Lib.hid hxs
            have hs0 : EInt.Q w4 ow4 [1, 0, 0] g3 0 (x :: zs) := by rw [← hxs]; exact hs
            clear hzr hxs hmx
            go_wp2_with fail
            refine (EInt.q_front_some w4 ow4 [1, 0, 0] g3 0 x zs hs0 (by omega)).mono ?_
            rintro e w81 ⟨rfl, bb⟩
            have nn := bb.nw ow4
            replace hs := hs.new_ nn
            replace hp := hp.new_ nn
            replace hw := hw.new_ nn
            replace hb := hb.new_ nn
            replace hr := hr.new_ nn
            replace t := t.trans (nn.turn [1])
            clear nn
            clear bb
            clear hs0
            go_wp2_with fail
            obtain ⟨-, -, -, hcell⟩ := hw.open_
            have e0 := hcell (0 * 1 + 0) _ (EInt.css_at xs 0 x hfirst 0 _ rfl (by omega))
            simp only [Nat.mul_one, Nat.add_zero, Nat.zero_mul] at e0
            have b5 := hb.get0
            clear hcell
            refine plain_regionN (fun W' : World => W'.cell? ⟨g9, off9, none⟩ = some (.int .i64 x) ∧ W'.cell? ⟨g5, 0, none⟩ = some (.slice (some ⟨g9, off9, none⟩) xs.length c6)) [] (by kernel_rfl) ?_
            have hS : (fun W' : World => W'.cell? ⟨g9, off9, none⟩ = some (.int .i64 x) ∧ W'.cell? ⟨g5, 0, none⟩ = some (.slice (some ⟨g9, off9, none⟩) xs.length c6)) w81.drew := ⟨e0, b5⟩
            refine anyX_takeNL 1 (v := ?_) rfl rfl (by as_aux_lemma => kernel_rfl) (by as_aux_lemma => kernel_rfl) (by as_aux_lemma => kernel_rfl) (by as_aux_lemma => kernel_rfl) (by as_aux_lemma => kernel_rfl) (fun _ _ _ h => h) rfl ?_ hS ?_
            rotate_left
            · intro W' hW'
              obtain ⟨s0, s1⟩ := hW'
              all_goals (go_simp; first | done | rfl)
            intro l' hl
            dsimp only [List.set_cons_succ, List.set_cons_zero] at hl
            subst hl
            refine anyX_takeNL 2 (v := ?_) rfl rfl (by as_aux_lemma => kernel_rfl) (by as_aux_lemma => kernel_rfl) (by as_aux_lemma => kernel_rfl) (by as_aux_lemma => kernel_rfl) (by as_aux_lemma => kernel_rfl) (fun _ _ _ h => h) rfl ?_ hS ?_
            rotate_left
            · intro W' hW'
              obtain ⟨s0, s1⟩ := hW'
              all_goals (go_simp; first | done | rfl)
            intro l' hl
            dsimp only [List.set_cons_succ, List.set_cons_zero] at hl
            subst hl
            refine anyX_one (i := 0) (by kernel_rfl) rfl rfl fun K' hK' => ?_
            unfold Oper.wp
            go_simp
            refine (EInt.q_len _ ow4 [1, 0, 0] g3 0 xs (hs.new_ (New.refl _ _).drew) (by omega)).mono ?_
            rintro e w82 ⟨rfl, kk, hw'⟩
            have nn : New w81 ow4 w82 ow4 := by rw [hw']; exact ((New.refl _ _).drew).drewN kk
            clear hw'
            replace hs := hs.new_ nn
            replace hp := hp.new_ nn
            replace hw := hw.new_ nn
            replace hb := hb.new_ nn
            replace hr := hr.new_ nn
            replace t := t.trans (nn.turn [1])
            clear nn
            clear hS e0 b5
            obtain ⟨-, -, -, hcell⟩ := hw.open_
            have e0 := hcell (0 * 1 + 0) _ (EInt.css_at xs 0 x hfirst 0 _ rfl (by omega))
            simp only [Nat.mul_one, Nat.add_zero, Nat.zero_mul] at e0
            have b5 := hb.get0
            clear hcell
            have hS : (fun W' : World => W'.cell? ⟨g9, off9, none⟩ = some (.int .i64 x) ∧ W'.cell? ⟨g5, 0, none⟩ = some (.slice (some ⟨g9, off9, none⟩) xs.length c6)) w82 := ⟨e0, b5⟩
            refine hK' _ _ (fun _ => hS) ?_
            clear hK' K'
            refine anyX_takeNL 3 (v := ?_) rfl rfl (by as_aux_lemma => kernel_rfl) (by as_aux_lemma => kernel_rfl) (by as_aux_lemma => kernel_rfl) (by as_aux_lemma => kernel_rfl) (by as_aux_lemma => kernel_rfl) (fun _ _ _ h => h) rfl ?_ hS ?_
            rotate_left
            · intro W' hW'
              obtain ⟨s0, s1⟩ := hW'
              all_goals (go_simp; first | done | rfl)
            intro l' hl
            dsimp only [List.set_cons_succ, List.set_cons_zero] at hl
            subst hl
            refine anyX_takeNL 4 (v := ?_) rfl rfl (by as_aux_lemma => kernel_rfl) (by as_aux_lemma => kernel_rfl) (by as_aux_lemma => kernel_rfl) (by as_aux_lemma => kernel_rfl) (by as_aux_lemma => kernel_rfl) (fun _ _ _ h => h) rfl ?_ hS ?_
            rotate_left
            · intro W' hW'
              obtain ⟨s0, s1⟩ := hW'
              all_goals (go_simp; first | done | rfl)
            intro l' hl
            dsimp only [List.set_cons_succ, List.set_cons_zero] at hl
            subst hl
            refine anyX_takeWL 6 (v := ?_) rfl rfl (by as_aux_lemma => kernel_rfl) (by as_aux_lemma => kernel_rfl) (by as_aux_lemma => kernel_rfl) (by as_aux_lemma => kernel_rfl) (by as_aux_lemma => kernel_rfl) (fun _ _ _ h => h) (by rfl) ?_ hS ?_
            rotate_left
            · intro W' hW'
              obtain ⟨s0, s1⟩ := hW'
              all_goals (go_simp; first | done | rfl)
            intro l' hl
            dsimp only [List.set_cons_succ, List.set_cons_zero] at hl
            subst hl
            refine anyX_takeWL 7 (v := ?_) rfl rfl (by as_aux_lemma => kernel_rfl) (by as_aux_lemma => kernel_rfl) (by as_aux_lemma => kernel_rfl) (by as_aux_lemma => kernel_rfl) (by as_aux_lemma => kernel_rfl) (fun _ _ _ h => h) (by rfl) ?_ hS ?_
            rotate_left
            · intro W' hW'
              obtain ⟨s0, s1⟩ := hW'
              all_goals (go_simp; first | done | rfl)
            intro l' hl
            dsimp only [List.set_cons_succ, List.set_cons_zero] at hl
            subst hl
            refine anyX_oneW (i := 5) (by kernel_rfl) rfl (by rfl) fun K' hK' => ?_
            unfold Oper.wp
            go_simp
            have hlen2 := EPr.q_len w82 ow4 [1, 0, 1] g4 0 _ hp (by rw [List.length_map]; omega)
            rw [List.length_map] at hlen2
            refine (hlen2).mono ?_
            rintro e w83 ⟨rfl, kk, hw'⟩
            have nn : New w82 ow4 w83 ow4 := by rw [hw']; exact (New.refl _ _).drewN kk
            clear hw'
            replace hs := hs.new_ nn
            replace hp := hp.new_ nn
            replace hw := hw.new_ nn
            replace hb := hb.new_ nn
            replace hr := hr.new_ nn
            replace t := t.trans (nn.turn [1])
            clear nn
            clear hS e0 b5 hlen2
            obtain ⟨-, -, -, hcell⟩ := hw.open_
            have e0 := hcell (0 * 1 + 0) _ (EInt.css_at xs 0 x hfirst 0 _ rfl (by omega))
            simp only [Nat.mul_one, Nat.add_zero, Nat.zero_mul] at e0
            have b5 := hb.get0
            clear hcell
            have hS : (fun W' : World => W'.cell? ⟨g9, off9, none⟩ = some (.int .i64 x) ∧ W'.cell? ⟨g5, 0, none⟩ = some (.slice (some ⟨g9, off9, none⟩) xs.length c6)) w83 := ⟨e0, b5⟩
            refine hK' _ _ (fun _ => hS) ?_
            clear hK' K'
            refine anyX_takeWL 8 (v := ?_) rfl rfl (by as_aux_lemma => kernel_rfl) (by as_aux_lemma => kernel_rfl) (by as_aux_lemma => kernel_rfl) (by as_aux_lemma => kernel_rfl) (by as_aux_lemma => kernel_rfl) (fun _ _ _ h => h) (by rfl) ?_ hS ?_
            rotate_left
            · intro W' hW'
              obtain ⟨s0, s1⟩ := hW'
              all_goals (go_simp; first | done | rfl)
            intro l' hl
            dsimp only [List.set_cons_succ, List.set_cons_zero] at hl
            subst hl
            refine anyX_takeNL 9 (v := ?_) rfl rfl (by as_aux_lemma => kernel_rfl) (by as_aux_lemma => kernel_rfl) (by as_aux_lemma => kernel_rfl) (by as_aux_lemma => kernel_rfl) (by as_aux_lemma => kernel_rfl) (fun _ _ _ h => h) rfl ?_ hS ?_
            rotate_left
            · intro W' hW'
              obtain ⟨s0, s1⟩ := hW'
              all_goals (go_simp; first | done | rfl)
            intro l' hl
            dsimp only [List.set_cons_succ, List.set_cons_zero] at hl
            subst hl
            refine anyX_takeNL 10 (v := ?_) rfl rfl (by as_aux_lemma => kernel_rfl) (by as_aux_lemma => kernel_rfl) (by as_aux_lemma => kernel_rfl) (by as_aux_lemma => kernel_rfl) (by as_aux_lemma => kernel_rfl) (fun _ _ _ h => h) rfl ?_ hS ?_
            rotate_left
            · intro W' hW'
              obtain ⟨s0, s1⟩ := hW'
              all_goals (go_simp; first | done | rfl)
            intro l' hl
            dsimp only [List.set_cons_succ, List.set_cons_zero] at hl
            subst hl
            refine anyX_takeWL 11 (v := ?_) rfl rfl (by as_aux_lemma => kernel_rfl) (by as_aux_lemma => kernel_rfl) (by as_aux_lemma => kernel_rfl) (by as_aux_lemma => kernel_rfl) (by as_aux_lemma => kernel_rfl) (fun _ _ _ h => h) (by rfl) ?_ hS ?_
            rotate_left
            · intro W' hW'
              obtain ⟨s0, s1⟩ := hW'
              all_goals (go_simp; first | done | rfl)
            intro l' hl
            dsimp only [List.set_cons_succ, List.set_cons_zero] at hl
            subst hl
            refine anyX_takeWL 12 (v := ?_) rfl rfl (by as_aux_lemma => kernel_rfl) (by as_aux_lemma => kernel_rfl) (by as_aux_lemma => kernel_rfl) (by as_aux_lemma => kernel_rfl) (by as_aux_lemma => kernel_rfl) (fun _ _ _ h => h) (by rfl) ?_ hS ?_
            rotate_left
            · intro W' hW'
              obtain ⟨s0, s1⟩ := hW'
              all_goals (go_simp; first | done | rfl)
            intro l' hl
            dsimp only [List.set_cons_succ, List.set_cons_zero] at hl
            subst hl
            refine anyX_takeWL 13 (v := ?_) rfl rfl (by as_aux_lemma => kernel_rfl) (by as_aux_lemma => kernel_rfl) (by as_aux_lemma => kernel_rfl) (by as_aux_lemma => kernel_rfl) (by as_aux_lemma => kernel_rfl) (fun _ _ _ h => h) (by rfl) ?_ hS ?_
            rotate_left
            · intro W' hW'
              obtain ⟨s0, s1⟩ := hW'
              all_goals (go_simp; first | done | rfl)
            intro l' hl
            dsimp only [List.set_cons_succ, List.set_cons_zero] at hl
            subst hl
            refine anyX_takeWL 14 (v := ?_) rfl rfl (by as_aux_lemma => kernel_rfl) (by as_aux_lemma => kernel_rfl) (by as_aux_lemma => kernel_rfl) (by as_aux_lemma => kernel_rfl) (by as_aux_lemma => kernel_rfl) (fun _ _ _ h => h) (by rfl) ?_ hS ?_
            rotate_left
            · intro W' hW'
              obtain ⟨s0, s1⟩ := hW'
              all_goals (go_simp; first | done | rfl)
            intro l' hl
            dsimp only [List.set_cons_succ, List.set_cons_zero] at hl
            subst hl
            refine anyX_takeWL 15 (v := ?_) rfl rfl (by as_aux_lemma => kernel_rfl) (by as_aux_lemma => kernel_rfl) (by as_aux_lemma => kernel_rfl) (by as_aux_lemma => kernel_rfl) (by as_aux_lemma => kernel_rfl) (fun _ _ _ h => h) (by rfl) ?_ hS ?_
            rotate_left
            · intro W' hW'
              obtain ⟨s0, s1⟩ := hW'
              all_goals (go_simp; first | done | rfl)
            intro l' hl
            dsimp only [List.set_cons_succ, List.set_cons_zero] at hl
            subst hl
            refine anyX_takeNL 16 (v := ?_) rfl rfl (by as_aux_lemma => kernel_rfl) (by as_aux_lemma => kernel_rfl) (by as_aux_lemma => kernel_rfl) (by as_aux_lemma => kernel_rfl) (by as_aux_lemma => kernel_rfl) (fun _ _ _ h => h) rfl ?_ hS ?_
            rotate_left
            · intro W' hW'
              obtain ⟨s0, s1⟩ := hW'
              all_goals (go_simp; first | done | rfl)
            intro l' hl
            dsimp only [List.set_cons_succ, List.set_cons_zero] at hl
            subst hl
            refine anyX_takeNL 17 (v := ?_) rfl rfl (by as_aux_lemma => kernel_rfl) (by as_aux_lemma => kernel_rfl) (by as_aux_lemma => kernel_rfl) (by as_aux_lemma => kernel_rfl) (by as_aux_lemma => kernel_rfl) (fun _ _ _ h => h) rfl ?_ hS ?_
            rotate_left
            · intro W' hW'
              obtain ⟨s0, s1⟩ := hW'
              all_goals (go_simp; first | done | rfl)
            intro l' hl
            dsimp only [List.set_cons_succ, List.set_cons_zero] at hl
            subst hl
            refine anyX_takeWL 18 (v := ?_) rfl rfl (by as_aux_lemma => kernel_rfl) (by as_aux_lemma => kernel_rfl) (by as_aux_lemma => kernel_rfl) (by as_aux_lemma => kernel_rfl) (by as_aux_lemma => kernel_rfl) (fun _ _ _ h => h) (by rfl) ?_ hS ?_
            rotate_left
            · intro W' hW'
              obtain ⟨s0, s1⟩ := hW'
              all_goals (go_simp; first | done | rfl)
            intro l' hl
            dsimp only [List.set_cons_succ, List.set_cons_zero] at hl
            subst hl
            refine anyX_takeWL 19 (v := ?_) rfl rfl (by as_aux_lemma => kernel_rfl) (by as_aux_lemma => kernel_rfl) (by as_aux_lemma => kernel_rfl) (by as_aux_lemma => kernel_rfl) (by as_aux_lemma => kernel_rfl) (fun _ _ _ h => h) (by rfl) ?_ hS ?_
            rotate_left
            · intro W' hW'
              obtain ⟨s0, s1⟩ := hW'
              all_goals (go_simp; first | done | rfl)
            intro l' hl
            dsimp only [List.set_cons_succ, List.set_cons_zero] at hl
            subst hl
            refine anyX_takeWL 20 (v := ?_) rfl rfl (by as_aux_lemma => kernel_rfl) (by as_aux_lemma => kernel_rfl) (by as_aux_lemma => kernel_rfl) (by as_aux_lemma => kernel_rfl) (by as_aux_lemma => kernel_rfl) (fun _ _ _ h => h) (by rfl) ?_ hS ?_
            rotate_left
            · intro W' hW'
              obtain ⟨s0, s1⟩ := hW'
              all_goals (go_simp; first | done | rfl)
            intro l' hl
            dsimp only [List.set_cons_succ, List.set_cons_zero] at hl
            subst hl
            refine anyX_takeWL 21 (v := ?_) rfl rfl (by as_aux_lemma => kernel_rfl) (by as_aux_lemma => kernel_rfl) (by as_aux_lemma => kernel_rfl) (by as_aux_lemma => kernel_rfl) (by as_aux_lemma => kernel_rfl) (fun _ _ _ h => h) (by rfl) ?_ hS ?_
            rotate_left
            · intro W' hW'
              obtain ⟨s0, s1⟩ := hW'
              all_goals (go_simp; first | done | rfl)
            intro l' hl
            dsimp only [List.set_cons_succ, List.set_cons_zero] at hl
            subst hl
            refine anyX_takeWL 22 (v := ?_) rfl rfl (by as_aux_lemma => kernel_rfl) (by as_aux_lemma => kernel_rfl) (by as_aux_lemma => kernel_rfl) (by as_aux_lemma => kernel_rfl) (by as_aux_lemma => kernel_rfl) (fun _ _ _ h => h) (by rfl) ?_ hS ?_
            rotate_left
            · intro W' hW'
              obtain ⟨s0, s1⟩ := hW'
              all_goals (go_simp; first | done | rfl)
            intro l' hl
            dsimp only [List.set_cons_succ, List.set_cons_zero] at hl
            subst hl
            refine anyX_takeWL 23 (v := ?_) rfl rfl (by as_aux_lemma => kernel_rfl) (by as_aux_lemma => kernel_rfl) (by as_aux_lemma => kernel_rfl) (by as_aux_lemma => kernel_rfl) (by as_aux_lemma => kernel_rfl) (fun _ _ _ h => h) (by rfl) ?_ hS ?_
            rotate_left
            · intro W' hW'
              obtain ⟨s0, s1⟩ := hW'
              all_goals (go_simp; first | done | rfl)
            intro l' hl
            dsimp only [List.set_cons_succ, List.set_cons_zero] at hl
            subst hl
            refine anyX_takeWL 24 (v := ?_) rfl rfl (by as_aux_lemma => kernel_rfl) (by as_aux_lemma => kernel_rfl) (by as_aux_lemma => kernel_rfl) (by as_aux_lemma => kernel_rfl) (by as_aux_lemma => kernel_rfl) (fun _ _ _ h => h) (by rfl) ?_ hS ?_
            rotate_left
            · intro W' hW'
              obtain ⟨s0, s1⟩ := hW'
              all_goals (go_simp; first | done | rfl)
            intro l' hl
            dsimp only [List.set_cons_succ, List.set_cons_zero] at hl
            subst hl
            refine anyX_takeWL 25 (v := ?_) rfl rfl (by as_aux_lemma => kernel_rfl) (by as_aux_lemma => kernel_rfl) (by as_aux_lemma => kernel_rfl) (by as_aux_lemma => kernel_rfl) (by as_aux_lemma => kernel_rfl) (fun _ _ _ h => h) (by rfl) ?_ hS ?_
            rotate_left
            · intro W' hW'
              obtain ⟨s0, s1⟩ := hW'
              all_goals (go_simp; first | done | rfl)
            intro l' hl
            dsimp only [List.set_cons_succ, List.set_cons_zero] at hl
            subst hl
            refine anyX_takeNL 26 (v := ?_) rfl rfl (by as_aux_lemma => kernel_rfl) (by as_aux_lemma => kernel_rfl) (by as_aux_lemma => kernel_rfl) (by as_aux_lemma => kernel_rfl) (by as_aux_lemma => kernel_rfl) (fun _ _ _ h => h) rfl ?_ hS ?_
            rotate_left
            · intro W' hW'
              obtain ⟨s0, s1⟩ := hW'
              all_goals (go_simp; first | done | rfl)
            intro l' hl
            dsimp only [List.set_cons_succ, List.set_cons_zero] at hl
            subst hl
            refine anyX_takeNL 27 (v := ?_) rfl rfl (by as_aux_lemma => kernel_rfl) (by as_aux_lemma => kernel_rfl) (by as_aux_lemma => kernel_rfl) (by as_aux_lemma => kernel_rfl) (by as_aux_lemma => kernel_rfl) (fun _ _ _ h => h) rfl ?_ hS ?_
            rotate_left
            · intro W' hW'
              obtain ⟨s0, s1⟩ := hW'
              all_goals (go_simp; first | done | rfl)
            intro l' hl
            dsimp only [List.set_cons_succ, List.set_cons_zero] at hl
            subst hl
            refine anyX_takeWL 28 (v := ?_) rfl rfl (by as_aux_lemma => kernel_rfl) (by as_aux_lemma => kernel_rfl) (by as_aux_lemma => kernel_rfl) (by as_aux_lemma => kernel_rfl) (by as_aux_lemma => kernel_rfl) (fun _ _ _ h => h) (by rfl) ?_ hS ?_
            rotate_left
            · intro W' hW'
              obtain ⟨s0, s1⟩ := hW'
              all_goals (go_simp; first | done | rfl)
            intro l' hl
            dsimp only [List.set_cons_succ, List.set_cons_zero] at hl
            subst hl
            refine anyX_takeWL 29 (v := ?_) rfl rfl (by as_aux_lemma => kernel_rfl) (by as_aux_lemma => kernel_rfl) (by as_aux_lemma => kernel_rfl) (by as_aux_lemma => kernel_rfl) (by as_aux_lemma => kernel_rfl) (fun _ _ _ h => h) (by rfl) ?_ hS ?_
            rotate_left
            · intro W' hW'
              obtain ⟨s0, s1⟩ := hW'
              all_goals (go_simp; first | done | rfl)
            intro l' hl
            dsimp only [List.set_cons_succ, List.set_cons_zero] at hl
            subst hl
            refine anyX_takeWL 30 (v := ?_) rfl rfl (by as_aux_lemma => kernel_rfl) (by as_aux_lemma => kernel_rfl) (by as_aux_lemma => kernel_rfl) (by as_aux_lemma => kernel_rfl) (by as_aux_lemma => kernel_rfl) (fun _ _ _ h => h) (by rfl) ?_ hS ?_
            rotate_left
            · intro W' hW'
              obtain ⟨s0, s1⟩ := hW'
              all_goals (go_simp; first | done | rfl)
            intro l' hl
            dsimp only [List.set_cons_succ, List.set_cons_zero] at hl
            subst hl
            refine anyX_takeUL 31 rfl rfl (by as_aux_lemma => kernel_rfl) (by as_aux_lemma => kernel_rfl) (by as_aux_lemma => kernel_rfl) (by as_aux_lemma => kernel_rfl) (by as_aux_lemma => kernel_rfl) (fun _ _ _ h => h) (by rfl) hS ?_
            intro l' hl
            dsimp only [List.set_cons_succ, List.set_cons_zero] at hl
            subst hl
            refine anyX_takeUL 32 rfl rfl (by as_aux_lemma => kernel_rfl) (by as_aux_lemma => kernel_rfl) (by as_aux_lemma => kernel_rfl) (by as_aux_lemma => kernel_rfl) (by as_aux_lemma => kernel_rfl) (fun _ _ _ h => h) (by rfl) hS ?_
            intro l' hl
            dsimp only [List.set_cons_succ, List.set_cons_zero] at hl
            subst hl
            refine anyX_takeWL 33 (v := ?_) rfl rfl (by as_aux_lemma => kernel_rfl) (by as_aux_lemma => kernel_rfl) (by as_aux_lemma => kernel_rfl) (by as_aux_lemma => kernel_rfl) (by as_aux_lemma => kernel_rfl) (fun _ _ _ h => h) (by rfl) ?_ hS ?_
            rotate_left
            · intro W' hW'
              obtain ⟨s0, s1⟩ := hW'
              all_goals (go_simp; first | done | rfl)
            intro l' hl
            dsimp only [List.set_cons_succ, List.set_cons_zero] at hl
            subst hl
            refine anyX_takeNL 34 (v := ?_) rfl rfl (by as_aux_lemma => kernel_rfl) (by as_aux_lemma => kernel_rfl) (by as_aux_lemma => kernel_rfl) (by as_aux_lemma => kernel_rfl) (by as_aux_lemma => kernel_rfl) (fun _ _ _ h => h) rfl ?_ hS ?_
            rotate_left
            · intro W' hW'
              obtain ⟨s0, s1⟩ := hW'
              all_goals (go_simp; first | done | rfl)
            intro l' hl
            dsimp only [List.set_cons_succ, List.set_cons_zero] at hl
            subst hl
            refine anyX_done (by kernel_rfl) ?_ _
            refine NoPanic.normal ?_
            clear hS e0 b5
            go_wp2_with fail
            go_roundg (ys.length - (k + 1))
            case measure => have := Hgk.out; omega
            case rel => exact ⟨k + 1, ow4, xs, _, rfl, by omega, by go_num, hxl, Hxr.out, hs, hp, hw, hb, hr, t⟩
    · obtain rfl : k = ys.length := by omega
      obtain ⟨A6, c6, rfl, hnc⟩ := hw.slice
      clear hlt Hgk
      go_wp2_with fail
      obtain ⟨owx, bx, nn, -⟩ := add_cells wr OW [1, 5, 1] [.int .i64 0] 3
      refine gen_calls (fun W => ∃ OW, EInt.Q W OW [1, 0, 0] g3 0 xs ∧ EPr.Q W OW [1, 0, 1] g4 0 (xs.map mkP) ∧ Row W OW [1, 4] 3 1 (.slice A6 xs.length c6) xs.length (EInt.css xs) ∧ Cells W OW [1, 2] g5 0 [.slice A6 xs.length c6] ∧ Cells W OW [1, 7] g2 0 [.bool false] ∧ Cells W OW [1, 5, 1] wr.heap.size 0 [.int .i64 0] ∧ Turn [1] w ow0 W OW) ⟨owx, hs.new_ nn, hp.new_ nn, hw.new_ nn, hb.new_ nn, hr.new_ nn, bx, t.trans (nn.turn [1])⟩ ?_
      clear hs hp hw hb hr bx t nn owx
      rintro w70 ⟨ow70, hs, hp, hw, hb, hr, hn, t⟩
      generalize wr.heap.size = gn at *
      refine (EInt.q_all w70 g3 0).mono ?_
      rintro e w71 ⟨rfl, rfl⟩
      have hfn := fun (W : World) (b : Nat) => run_eql_fn (P := Try.prog) W 102 _ _ _ (.func 116) #[] #[.pointer (some ⟨b, 0, none⟩)] Try.underlying102
      go_wp2
      clear hfn
      obtain ⟨owx, bx, nn, -⟩ := add_cells w70 ow70 [1, 8] [.pointer (some ⟨g3, 0, none⟩)] 89
      refine gen_world (fun W => ∃ OW, EInt.Q W OW [1, 0, 0] g3 0 xs ∧ EPr.Q W OW [1, 0, 1] g4 0 (xs.map mkP) ∧ Row W OW [1, 4] 3 1 (.slice A6 xs.length c6) xs.length (EInt.css xs) ∧ Cells W OW [1, 2] g5 0 [.slice A6 xs.length c6] ∧ Cells W OW [1, 7] g2 0 [.bool false] ∧ Cells W OW [1, 5, 1] gn 0 [.int .i64 0] ∧ Cells W OW [1, 8] w70.heap.size 0 [.pointer (some ⟨g3, 0, none⟩)] ∧ Turn [1] w ow0 W OW) ⟨owx, hs.new_ nn, hp.new_ nn, hw.new_ nn, hb.new_ nn, hr.new_ nn, hn.new_ nn, bx, t.trans (nn.turn [1])⟩ ?_
      clear hs hp hw hb hr hn bx t nn owx
      rintro w72 ⟨ow72, hs, hp, hw, hb, hr, hn, hc, t⟩
      generalize w70.heap.size = gc at *
      refine wp_range (gf := 116) (lb := #[.pointer (some ⟨gc, 0, none⟩)]) rfl (enters_of Try.func116 (by kernel_rfl) rfl) (EInt.qargs xs) [1, 6] [1, 5] [1, 5, 0] w72 ow72
        (EInt.q_iter w72 ow72 [1, 0, 0] [1, 8] [1, 6] [1, 5] g3 0 gc xs hs (by omega) hc (by simp) (by simp) (by simp) (by simp)) (Turn.refl _ _ _) (by simp) (by simp) ?_
        (rngI w g2 g3 g4 g5 gn gc (.slice A6 xs.length c6) xs) (fun _ _ _ _ => False) ?_ ?_ ?_ ?_ ?_ ?_ ?_ ?_
      · intro i args hi
        obtain ⟨x, -, rfl⟩ := EInt.qargs_at xs i args hi
        rfl
      · exact fun j => rngI.keep _ _ _ _ _ _ _ _ _ _ _ _ (by simp) (by simp)
      · intro c j W1 OW1 W2 OW2 hf; exact hf.elim
      · exact fun j => rngI.keep _ _ _ _ _ _ _ _ _ _ _ _ (by simp) (by simp)
      · intro c j W1 OW1 W2 OW2 hf; exact hf.elim
      · exact ⟨hs, hp, hw, hb, hr, hn, t⟩
      · intro l' D j rr rb args W4 OW4 hxj hI hBk
        clear hs hp hw hb hr hn hc t
        obtain ⟨x, hx, rfl⟩ := EInt.qargs_at xs j args hxj
        obtain ⟨d1, d2, d3, d4, d5, d6, d7⟩ := hI
        rw [foldl2]
        simp only [List.setIfInBounds_toArray, List.set_cons_succ, List.set_cons_zero]
        gi_wp2
        refine ⟨OW4, Turn.refl _ _ _, hBk, fun W5 ht5 hBk5 => ?_⟩
        have d1 := d1.keep ht5 (by simp) (by simp)
        have d2 := d2.keep ht5 (by simp) (by simp)
        have d3 := d3.keep ht5 (by simp)
        have d4 := d4.keep ht5 (by simp)
        have d5 := d5.keep ht5 (by simp)
        have d6 := d6.keep ht5 (by simp)
        have d7 := d7.trans (ht5.up (by simp))
        have hjl := (List.getElem?_eq_some_iff.1 hx).1
        obtain ⟨g9, off9, cap9, hv, -⟩ := d3.at (by omega)
        simp only [Value.slice.injEq] at hv
        obtain ⟨rfl, -, rfl⟩ := hv
        obtain ⟨-, -, -, hcell⟩ := d3.open_
        have e0 := hcell (j * 1 + 0) _ (EInt.css_at xs j x hx 0 _ rfl (by omega))
        simp only [Nat.mul_one, Nat.add_zero] at e0
        have b5 := d4.get0
        have n0 := d6.get0
        have nf := d6.free 0
        have nl := d6.lt
        have i1 : (j : Int) < (xs.length : Int) := by omega
        clear hcell
        gi_wp2
        have tk := d6.turn 0 (.int .i64 ((j : Int) + 1)) (by simp)
        exact ⟨OW4, tk.up (by simp), hBk5.setCell _ _, d1.keep tk (by simp) (by simp), d2.keep tk (by simp) (by simp), d3.keep tk (by simp), d4.keep tk (by simp), d5.keep tk (by simp), d6.set0 _, d7.trans (tk.up (by simp))⟩
      · clear hs hp hw hb hr hn hc t
        intro D W4 OW4 hI hD oD hDs
        rw [EInt.qargs_length] at hI
        obtain ⟨hs, hp, hw, hb, hr, hn, t⟩ := hI
        have hM : Marks (fun x => x = [1, 5, 0]) W4 OW4 [{ target := .collected D, args := #[] }] := ⟨⟨D, rfl, hD, oD, by simp⟩, trivial⟩
        have hl2 : (xs.map mkP).length = xs.length := List.length_map _
        clear hD oD hDs
        go_wp2_with fail
        have n0 := hn.get0
        have b5 := hb.get0
        refine plain_regionN (fun W' : World => W'.cell? ⟨gn, 0, none⟩ = some (.int .i64 (xs.length : Int)) ∧ W'.cell? ⟨g5, 0, none⟩ = some (.slice A6 xs.length c6)) [17] (by kernel_rfl) ?_
        have hS : (fun W' : World => W'.cell? ⟨gn, 0, none⟩ = some (.int .i64 (xs.length : Int)) ∧ W'.cell? ⟨g5, 0, none⟩ = some (.slice A6 xs.length c6)) W4.drew := ⟨n0, b5⟩
        refine anyX_takeNL 0 (v := ?_) rfl rfl (by as_aux_lemma => kernel_rfl) (by as_aux_lemma => kernel_rfl) (by as_aux_lemma => kernel_rfl) (by as_aux_lemma => kernel_rfl) (by as_aux_lemma => kernel_rfl) (fun _ _ _ h => h) rfl ?_ hS ?_
        rotate_left
        · intro W' hW'
          obtain ⟨s0, s1⟩ := hW'
          all_goals (go_simp; first | done | rfl)
        intro l' hl
        dsimp only [List.set_cons_succ, List.set_cons_zero] at hl
        subst hl
        refine anyX_takeNL 1 (v := ?_) rfl rfl (by as_aux_lemma => kernel_rfl) (by as_aux_lemma => kernel_rfl) (by as_aux_lemma => kernel_rfl) (by as_aux_lemma => kernel_rfl) (by as_aux_lemma => kernel_rfl) (fun _ _ _ h => h) rfl ?_ hS ?_
        rotate_left
        · intro W' hW'
          obtain ⟨s0, s1⟩ := hW'
          all_goals (go_simp; first | done | rfl)
        intro l' hl
        dsimp only [List.set_cons_succ, List.set_cons_zero] at hl
        subst hl
        refine anyX_takeNL 2 (v := ?_) rfl rfl (by as_aux_lemma => kernel_rfl) (by as_aux_lemma => kernel_rfl) (by as_aux_lemma => kernel_rfl) (by as_aux_lemma => kernel_rfl) (by as_aux_lemma => kernel_rfl) (fun _ _ _ h => h) rfl ?_ hS ?_
        rotate_left
        · intro W' hW'
          obtain ⟨s0, s1⟩ := hW'
          all_goals (go_simp; first | done | rfl)
        intro l' hl
        dsimp only [List.set_cons_succ, List.set_cons_zero] at hl
        subst hl
        refine anyX_takeNL 3 (v := ?_) rfl rfl (by as_aux_lemma => kernel_rfl) (by as_aux_lemma => kernel_rfl) (by as_aux_lemma => kernel_rfl) (by as_aux_lemma => kernel_rfl) (by as_aux_lemma => kernel_rfl) (fun _ _ _ h => h) rfl ?_ hS ?_
        rotate_left
        · intro W' hW'
          obtain ⟨s0, s1⟩ := hW'
          all_goals (go_simp; first | done | rfl)
        intro l' hl
        dsimp only [List.set_cons_succ, List.set_cons_zero] at hl
        subst hl
        refine anyX_takeNL 4 (v := ?_) rfl rfl (by as_aux_lemma => kernel_rfl) (by as_aux_lemma => kernel_rfl) (by as_aux_lemma => kernel_rfl) (by as_aux_lemma => kernel_rfl) (by as_aux_lemma => kernel_rfl) (fun _ _ _ h => h) rfl ?_ hS ?_
        rotate_left
        · intro W' hW'
          obtain ⟨s0, s1⟩ := hW'
          all_goals (go_simp; first | done | rfl)
        intro l' hl
        dsimp only [List.set_cons_succ, List.set_cons_zero] at hl
        subst hl
        refine anyX_takeWL 6 (v := ?_) rfl rfl (by as_aux_lemma => kernel_rfl) (by as_aux_lemma => kernel_rfl) (by as_aux_lemma => kernel_rfl) (by as_aux_lemma => kernel_rfl) (by as_aux_lemma => kernel_rfl) (fun _ _ _ h => h) (by rfl) ?_ hS ?_
        rotate_left
        · intro W' hW'
          obtain ⟨s0, s1⟩ := hW'
          all_goals (go_simp; first | done | rfl)
        intro l' hl
        dsimp only [List.set_cons_succ, List.set_cons_zero] at hl
        subst hl
        refine anyX_oneW (i := 5) (by kernel_rfl) rfl (by rfl) fun K' hK' => ?_
        unfold Oper.wp
        go_simp
        refine (EInt.q_list _ OW4 [1, 0, 0] [8, 0] g3 0 xs (hs.new_ (New.refl _ _).drew) (by omega)).mono ?_
        rintro e w81 ⟨v81, ow81, rfl, rr, nn, -⟩
        replace nn := (New.refl W4 OW4).drew.trans nn
        replace hs := hs.new_ nn
        replace hp := hp.new_ nn
        replace hw := hw.new_ nn
        replace hb := hb.new_ nn
        replace hr := hr.new_ nn
        replace hn := hn.new_ nn
        replace hM := hM.new_ nn
        replace t := t.trans (nn.turn [1])
        clear nn
        clear hS n0 b5
        have n0 := hn.get0
        have b5 := hb.get0
        have hS : (fun W' : World => W'.cell? ⟨gn, 0, none⟩ = some (.int .i64 (xs.length : Int)) ∧ W'.cell? ⟨g5, 0, none⟩ = some (.slice A6 xs.length c6)) w81 := ⟨n0, b5⟩
        refine hK' _ _ (fun _ => hS) ?_
        clear hK' K'
        refine anyX_oneW (i := 7) (by kernel_rfl) rfl (by rfl) fun K' hK' => ?_
        unfold Oper.wp
        go_simp
        refine (EInt.same_yes w81 v81 (.slice A6 xs.length c6) xs (by omega) rr.reads hw.reads).mono ?_
        rintro e w82 ⟨rfl, kk, hw'⟩
        have nn : New w81 ow81 w82 ow81 := by rw [hw']; exact (New.refl _ _).drewN kk
        clear hw'
        replace hs := hs.new_ nn
        replace hp := hp.new_ nn
        replace hw := hw.new_ nn
        replace hb := hb.new_ nn
        replace hr := hr.new_ nn
        replace hn := hn.new_ nn
        replace hM := hM.new_ nn
        replace t := t.trans (nn.turn [1])
        clear nn
        clear hS n0 b5 rr
        have n0 := hn.get0
        have b5 := hb.get0
        have hS : (fun W' : World => W'.cell? ⟨gn, 0, none⟩ = some (.int .i64 (xs.length : Int)) ∧ W'.cell? ⟨g5, 0, none⟩ = some (.slice A6 xs.length c6)) w82 := ⟨n0, b5⟩
        refine hK' _ _ (fun _ => hS) ?_
        clear hK' K'
        refine anyX_takeNL 8 (v := ?_) rfl rfl (by as_aux_lemma => kernel_rfl) (by as_aux_lemma => kernel_rfl) (by as_aux_lemma => kernel_rfl) (by as_aux_lemma => kernel_rfl) (by as_aux_lemma => kernel_rfl) (fun _ _ _ h => h) rfl ?_ hS ?_
        rotate_left
        · intro W' hW'
          obtain ⟨s0, s1⟩ := hW'
          all_goals (go_simp; first | done | rfl)
        intro l' hl
        dsimp only [List.set_cons_succ, List.set_cons_zero] at hl
        subst hl
        refine anyX_takeNL 9 (v := ?_) rfl rfl (by as_aux_lemma => kernel_rfl) (by as_aux_lemma => kernel_rfl) (by as_aux_lemma => kernel_rfl) (by as_aux_lemma => kernel_rfl) (by as_aux_lemma => kernel_rfl) (fun _ _ _ h => h) rfl ?_ hS ?_
        rotate_left
        · intro W' hW'
          obtain ⟨s0, s1⟩ := hW'
          all_goals (go_simp; first | done | rfl)
        intro l' hl
        dsimp only [List.set_cons_succ, List.set_cons_zero] at hl
        subst hl
        refine anyX_takeWL 11 (v := ?_) rfl rfl (by as_aux_lemma => kernel_rfl) (by as_aux_lemma => kernel_rfl) (by as_aux_lemma => kernel_rfl) (by as_aux_lemma => kernel_rfl) (by as_aux_lemma => kernel_rfl) (fun _ _ _ h => h) (by rfl) ?_ hS ?_
        rotate_left
        · intro W' hW'
          obtain ⟨s0, s1⟩ := hW'
          all_goals (go_simp; first | done | rfl)
        intro l' hl
        dsimp only [List.set_cons_succ, List.set_cons_zero] at hl
        subst hl
        refine anyX_oneW (i := 10) (by kernel_rfl) rfl (by rfl) fun K' hK' => ?_
        unfold Oper.wp
        go_simp
        refine (EPr.q_list w82 ow81 [1, 0, 1] [8, 0] g4 0 _ hp (by rw [hl2]; omega)).mono ?_
        rintro e w83 ⟨v83, ow83, rfl, rr, nn, -⟩
        replace hs := hs.new_ nn
        replace hp := hp.new_ nn
        replace hw := hw.new_ nn
        replace hb := hb.new_ nn
        replace hr := hr.new_ nn
        replace hn := hn.new_ nn
        replace hM := hM.new_ nn
        replace t := t.trans (nn.turn [1])
        clear nn
        clear hS n0 b5
        have n0 := hn.get0
        have b5 := hb.get0
        have hS : (fun W' : World => W'.cell? ⟨gn, 0, none⟩ = some (.int .i64 (xs.length : Int)) ∧ W'.cell? ⟨g5, 0, none⟩ = some (.slice A6 xs.length c6)) w83 := ⟨n0, b5⟩
        refine hK' _ _ (fun _ => hS) ?_
        clear hK' K'
        refine anyX_oneW (i := 12) (by kernel_rfl) rfl (by rfl) fun K' hK' => ?_
        unfold Oper.wp
        go_simp
        refine (pairs w83 v83 A6 c6 xs (by omega) Hxr.out (by have := rr.reads; rwa [hl2] at this) (EInt.Cov.of_reads hw.reads)).mono ?_
        rintro e w84 ⟨rfl, bb⟩
        have nn := bb.nw ow83
        replace hs := hs.new_ nn
        replace hp := hp.new_ nn
        replace hw := hw.new_ nn
        replace hb := hb.new_ nn
        replace hr := hr.new_ nn
        replace hn := hn.new_ nn
        replace hM := hM.new_ nn
        replace t := t.trans (nn.turn [1])
        clear nn
        clear hS n0 b5 bb rr
        have n0 := hn.get0
        have b5 := hb.get0
        have hS : (fun W' : World => W'.cell? ⟨gn, 0, none⟩ = some (.int .i64 (xs.length : Int)) ∧ W'.cell? ⟨g5, 0, none⟩ = some (.slice A6 xs.length c6)) w84 := ⟨n0, b5⟩
        refine hK' _ _ (fun _ => hS) ?_
        clear hK' K'
        refine anyX_takeNL 13 (v := ?_) rfl rfl (by as_aux_lemma => kernel_rfl) (by as_aux_lemma => kernel_rfl) (by as_aux_lemma => kernel_rfl) (by as_aux_lemma => kernel_rfl) (by as_aux_lemma => kernel_rfl) (fun _ _ _ h => h) rfl ?_ hS ?_
        rotate_left
        · intro W' hW'
          obtain ⟨s0, s1⟩ := hW'
          all_goals (go_simp; first | done | rfl)
        intro l' hl
        dsimp only [List.set_cons_succ, List.set_cons_zero] at hl
        subst hl
        refine anyX_takeNL 14 (v := ?_) rfl rfl (by as_aux_lemma => kernel_rfl) (by as_aux_lemma => kernel_rfl) (by as_aux_lemma => kernel_rfl) (by as_aux_lemma => kernel_rfl) (by as_aux_lemma => kernel_rfl) (fun _ _ _ h => h) rfl ?_ hS ?_
        rotate_left
        · intro W' hW'
          obtain ⟨s0, s1⟩ := hW'
          all_goals (go_simp; first | done | rfl)
        intro l' hl
        dsimp only [List.set_cons_succ, List.set_cons_zero] at hl
        subst hl
        refine anyX_oneW (i := 15) (by kernel_rfl) rfl (by rfl) fun K' hK' => ?_
        unfold Oper.wp
        go_simp
        refine (runs w84).mono ?_
        rintro e w85 ⟨rfl, bb⟩
        have nn := bb.nw ow83
        replace hs := hs.new_ nn
        replace hp := hp.new_ nn
        replace hw := hw.new_ nn
        replace hb := hb.new_ nn
        replace hr := hr.new_ nn
        replace hn := hn.new_ nn
        replace hM := hM.new_ nn
        replace t := t.trans (nn.turn [1])
        clear nn
        clear hS n0 b5 bb 
        have n0 := hn.get0
        have b5 := hb.get0
        have hS : (fun W' : World => W'.cell? ⟨gn, 0, none⟩ = some (.int .i64 (xs.length : Int)) ∧ W'.cell? ⟨g5, 0, none⟩ = some (.slice A6 xs.length c6)) w85 := ⟨n0, b5⟩
        refine hK' _ _ (fun _ => hS) ?_
        clear hK' K'
        refine anyX_takeNL 16 (v := ?_) rfl rfl (by as_aux_lemma => kernel_rfl) (by as_aux_lemma => kernel_rfl) (by as_aux_lemma => kernel_rfl) (by as_aux_lemma => kernel_rfl) (by as_aux_lemma => kernel_rfl) (fun _ _ _ h => h) rfl ?_ hS ?_
        rotate_left
        · intro W' hW'
          obtain ⟨s0, s1⟩ := hW'
          all_goals (go_simp; first | done | rfl)
        intro l' hl
        dsimp only [List.set_cons_succ, List.set_cons_zero] at hl
        subst hl
        have r0 := hr.get0
        have fr := hr.free 0
        have lr := hr.lt
        refine anyX_one (i := 17) (by kernel_rfl) rfl rfl fun K' hK' => ?_
        unfold Oper.wp
        go_simp
        refine hK' _ _ (fun hf => by cases hf) (anyX_done (by kernel_rfl) ?_ _)
        refine NoPanic.normal ?_
        clear hK' K'
        have tt := hr.turn 0 (.bool true) (by simp)
        have hr2 := hr.set0 (.bool true)
        have hM2 := Marks.turn (q := [1, 7]) (by rintro x rfl; simp) tt hM
        have fin := t.trans (tt.up (by simp))
        generalize w85.setCell ⟨g2, 0, none⟩ (.bool true) = wf at *
        clear hs hp hw hb hr hn hM t tt r0 fr lr
        go_wp2
        refine bodyM_ret (ok := fun x => x = [1, 5, 0]) [1, 5, 0] (fun x hx => hx ▸ List.prefix_refl _) hM2 fun W' t' => ⟨.bool true, ?_, rfl, ((fin.trans (t'.up (by simp))).new_ ow0 [1]).below⟩
        have r0 := (hr2.keep t' (by simp)).get0
        simp [results, Try.results11, go_sem, r0]
      · intro D c j W1 OW1 hj hf; exact hf.elim

end SH
end Go.Proofs.Ytppikbdeopagkaa
